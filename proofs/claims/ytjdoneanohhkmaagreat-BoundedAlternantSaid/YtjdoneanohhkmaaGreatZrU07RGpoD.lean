/- Layer 5 of the program: Div, Interpolate. -/
import Derived.Test.YtjdoneanohhkmaaGreatZrU07RDivP
import Derived.Test.YtjdoneanohhkmaaGreatZrU07RTk
namespace Go.Proofs.YtjdoneanohhkmaaGreat
open Go.RowKit Cw
open Cw.CField (inv)
attribute [local go_sem] Oper.semAt_some

set_option maxHeartbeats 1000000 in
theorem gDiv_ok (F : FD) (x y : Int) (g : Nat) (w : World) (hg : GF w w.heap.size g F) (hy : eli F.toDesc y ≠ 0) :
  Calls Tryz.prog 229 #[.pointer (some ⟨g,0,none⟩),.int .i64 x,.int .i64 y] w fun e w' => e = .returned (.tuple #[.int .i64 (ci (eli F.toDesc x * inv (eli F.toDesc y))),.int .i64 0]) ∧ Below w.heap.size w w' := by
 have hI := Lib.hid (gInv_ok F y g w hg hy);have hM := fun W h => gMul_any F x (ci (inv (eli F.toDesc y))) g W h
 rw [eli_ci] at hM;replace hM := fun W h => Lib.hid (hM W h)
 clear hy;go_enter Tryz.func229,Tryz.ntmps229;go_wp2_with (fail);(with_reducible refine hI.out.mono ?_);rintro e w1 ⟨rfl,hb1⟩;go_wp2_with (fail);(with_reducible refine (hM w1 ((hg.below hb1).more hb1.size)).out.mono ?_);rintro e w2 ⟨rfl,hb2⟩;go_wp2_with (fail);go_ret2;exact ⟨rfl,hb1.trans (hb2.mono hb1.size)⟩

set_option maxRecDepth 100000 in
set_option maxHeartbeats 8000000 in
theorem gIntp_any (F : FD) (xs ys : List Int) (n : Nat) (A1 A2 : Option Addr) (c1 c2 g : Nat) (w : World) (hg : GF w w.heap.size g F) (hr1 : Rd w w.heap.size A1 xs) (hr2 : Rd w w.heap.size A2 ys) (hn1 : xs.length = n) (hn2 : ys.length = n) (hn : n ≤ 64)
  (hd : ∀ i j,i < n → j < i → eli F.toDesc (xs[i]?.getD 0) ≠ eli F.toDesc (xs[j]?.getD 0)) :
  Calls Tryz.prog 250 #[.pointer (some ⟨g,0,none⟩),.slice A1 n c1,.slice A2 n c2] w fun e w' => ∃ l A c,e = .returned (.tuple #[.slice A l.length c,.int .i64 0]) ∧ Rd w' w'.heap.size A l ∧ LI F.toDesc (fun i => eli F.toDesc (xs[i]?.getD 0)) (fun i => eli F.toDesc (ys[i]?.getD 0)) n l ∧ Own w' w.heap.size (.slice A l.length c) l ∧ Below w.heap.size w w' := by
 have hq := F.q256;have hO := Lib.hid (gOrder_any F g w hg);have hmk := mk_bools F.q (by omega);have hbb := Lib.hid (BB.newz w F.q);obtain ⟨Y,hY⟩ : ∃ Y,Y = w.alloc (.cells (Array.replicate F.q (Value.bool false)) 4) := ⟨_,rfl⟩;have hbY : Below w.heap.size w Y := by rw [hY]; exact (Below.refl _ _).alloc (Nat.le_refl _) _
 have hYs : w.heap.size < Y.heap.size := by rw [hY]; simp
 rw [← hY] at hbb;have hnn : ((n : Int) != (n : Int)) = false := by simp
 replace hY := Lib.hid hY;replace hd := Lib.hid hd;replace hn1 := Lib.hid hn1;replace hn2 := Lib.hid hn2;obtain ⟨X,hX⟩ : ∃ X : Nat → R F.toDesc,X = fun i => eli F.toDesc (xs[i]?.getD 0) := ⟨_,rfl⟩
 obtain ⟨Yv,hYv⟩ : ∃ Yv : Nat → R F.toDesc,Yv = fun i => eli F.toDesc (ys[i]?.getD 0) := ⟨_,rfl⟩
 rw [← hX,← hYv];have hXk : Hid (∀ k,eli F.toDesc (xs[k]?.getD 0) = X k) := fun k => by rw [hX]
 have hYk : Hid (∀ k,eli F.toDesc (ys[k]?.getD 0) = Yv k) := fun k => by rw [hYv]
 have hdX : Hid (∀ i j,i < n → j < i → X i ≠ X j) := fun i j h1 h2 => by rw [hX]; exact hd.out i j h1 h2
 clear hX hYv hd;go_enter Tryz.func250,Tryz.ntmps250;go_wp2_with (fail);(with_reducible refine hO.out.mono ?_);rintro e w1 ⟨rfl,rfl⟩;go_wp2_with (fail);rw [← hY.out];go_loopw [28] (fun i wr => ∃ (k : Nat) (f : Nat → Bool),k ≤ n ∧ i = .int .i64 k ∧ Hid (BB wr w.heap.size F.q f) ∧ Hid (∀ m,f m = true → ∃ j,j < k ∧ rcode (X j) = m) ∧ Below w.heap.size w wr ∧ w.heap.size < wr.heap.size) (fun i _ => n - (intOf i).toNat)
 case atStart => exact ⟨0,fun _ => false,by omega,rfl,hbb,fun m h => (by cases h),hbY,hYs⟩
 case round =>
  obtain ⟨k,f,hk,rfl,hbk,hfk,hbw,hlw⟩ := hrel;obtain ⟨w3,rfl⟩ : ∃ w3 : World,w3 = wr := ⟨_,rfl⟩;clear hbb hbY hYs;by_cases hlt : k < n
  ·have hk0 : (0 : Int) ≤ (k : Int) := by omega
   have hk1 : (k : Int) < (n : Int) := by omega
   obtain ⟨b,o,rfl,hb,hc⟩ := hr1.at_ (by rw [hn1.out]; exact hlt : k < xs.length);have hcx := (hbw.cell (p := ⟨b,o + k,none⟩) hb).trans hc;have hA := gAdd_any F (xs[k]?.getD 0) 0 g w3 ((hg.below hbw).more hbw.size);rw [hXk.out k,eli_zero,add_zero] at hA;obtain ⟨x,hx⟩ : ∃ x,x = xs[k]?.getD 0 := ⟨_,rfl⟩;rw [← hx] at hcx hA;obtain ⟨m,hm⟩ : ∃ m : Nat,m = rcode (X k) := ⟨_,rfl⟩;have hcm : ci (X k) = (m : Int) := by unfold ci; rw [hm]
   rw [hcm] at hA;have hmq : m < F.q := by rw [hm]; exact rcode_lt _
   have hm0 : (0 : Int) ≤ (m : Int) := by omega
   have hm1 : (m : Int) < (F.q : Int) := by omega
   have hfm : f m = false := by
    cases h : f m with
    | false => rfl
    | true =>
     exfalso;obtain ⟨j,hj,e⟩ := hfk.out m h;exact hdX.out k j hlt hj (rcode_inj (by rw [e,hm]))
   replace hA := Lib.hid hA;replace hx := Lib.hid hx;clear hc hcm;go_wp2_with (fail);(with_reducible refine hA.out.mono ?_);rintro e w4 ⟨rfl,hb4⟩;have hbk4 := hbk.out.below hb4 hlw;have hcs := hbk4.cell hmq;rw [hfm] at hcs;have hfs := hbk4.frozen m;have hset := Lib.hid (hbk4.set_ m true);have hf2 : Hid (∀ m',(if m' = m then true else f m') = true → ∃ j,j < k + 1 ∧ rcode (X j) = m') := fun m' h => by
    by_cases e : m' = m
    ·exact ⟨k,by omega,by rw [e,hm]⟩
    ·rw [if_neg e] at h;obtain ⟨j,hj,e2⟩ := hfk.out m' h;exact ⟨j,by omega,e2⟩
   have hbs : Below w.heap.size w (w4.setCell ⟨w.heap.size,m,none⟩ (.bool true)) := (hbw.trans (hb4.mono hbw.size)).setCell (p := ⟨w.heap.size,m,none⟩) (Nat.le_refl _) _;have hls : w.heap.size < (w4.setCell ⟨w.heap.size,m,none⟩ (.bool true)).heap.size := Nat.lt_of_lt_of_le (Nat.lt_of_lt_of_le hlw hb4.size) (grown_set _ _ _).size;replace hm := Lib.hid hm;clear hfm;go_wp2_with (fail);go_roundw
   case rel => exact ⟨k + 1,_,by omega,by go_num,hset,hf2,hbs,hls⟩
   case measure => simp [intOf]; omega
  ·obtain rfl : n = k := by omega
   obtain ⟨Y3,hY3⟩ : ∃ Y3,Y3 = w3.alloc (.cells #[.int .i64 1] 3) := ⟨_,rfl⟩;have hbY3 : Below w3.heap.size w3 Y3 := by rw [hY3]; exact (Below.refl _ _).alloc (Nat.le_refl _) _
   have hrz : Rd Y3 Y3.heap.size (some ⟨w3.heap.size,0,none⟩) [1] := by rw [hY3]; exact rd_new w3 [1]
   have hB3 := hbw.trans (hbY3.mono hbw.size);have hw3 := hbw.size;have hLI := Lib.hid (LI.zero F.toDesc X Yv);have hZI := Lib.hid (ZI.zero F.toDesc X);replace hY3 := Lib.hid hY3;go_wp2_with (fail);rw [← hY3.out];go_loopw [46,11,12] (fun i ov zv wr => ∃ (k : Nat) (l z : List Int) (Al Az : Option Addr) (cl cz : Nat),k ≤ n ∧ i = .int .i64 k ∧ ov = .slice Al l.length cl ∧ zv = .slice Az z.length cz ∧ Rd wr wr.heap.size Al l ∧ Rd wr wr.heap.size Az z ∧ Hid (LI F.toDesc X Yv k l) ∧ Hid (ZI F.toDesc X k z) ∧ Hid (Own wr w.heap.size (.slice Al l.length cl) l) ∧ Below w.heap.size w wr) (fun i _ _ _ => n - (intOf i).toNat)
   case atStart => exact ⟨0,[],[1],none,some ⟨w3.heap.size,0,none⟩,0,1,by omega,rfl,rfl,rfl,Rd.nil,hrz,hLI,hZI,Own.nil _ _,hB3⟩
   case round =>
    obtain ⟨k,l,z,Al,Az,cl,cz,hk,rfl,rfl,rfl,hrl,hrz',hL,hZ,hAl,hbx⟩ := hrel;obtain ⟨w5,rfl⟩ : ∃ w5 : World,w5 = wr := ⟨_,rfl⟩;clear hbY3 hrz hB3 hLI hZI;by_cases hlt : k < n
    ·have hk0 : (0 : Int) ≤ (k : Int) := by omega
     have hk1 : (k : Int) < (n : Int) := by omega
     obtain ⟨b1,o1,rfl,hb1,hc1⟩ := hr1.at_ (by rw [hn1.out]; exact hlt : k < xs.length);obtain ⟨b2,o2,rfl,hb2,hc2⟩ := hr2.at_ (by rw [hn2.out]; exact hlt : k < ys.length);have hd1 := (hbx.cell (p := ⟨b1,o1 + k,none⟩) hb1).trans hc1;have hd2 := (hbx.cell (p := ⟨b2,o2 + k,none⟩) hb2).trans hc2;obtain ⟨x,hx⟩ : ∃ x,x = xs[k]?.getD 0 := ⟨_,rfl⟩;obtain ⟨y,hy⟩ : ∃ y,y = ys[k]?.getD 0 := ⟨_,rfl⟩;rw [← hx] at hd1;rw [← hy] at hd2;have hxe : eli F.toDesc x = X k := by rw [hx,hXk.out]
     have hye : eli F.toDesc y = Yv k := by rw [hy,hYk.out]
     have hgx := (hg.below hbx).more hbx.size;have hl64 : l.length ≤ maxLen := by have := hL.out.1; unfold maxLen; omega
     have hz64 : z.length ≤ maxLen := by have := hZ.out.1; unfold maxLen; omega
     have hE1 := pEval_any F l x Al cl g w5.drew hgx.drew hrl.drew hl64;rw [hxe] at hE1;have hS := fun W h => gSub_any F y (ci (pevI F.toDesc l (X k))) g W h
     rw [eli_ci,hye] at hS;have hE2 := fun W a b => pEval_any F z x Az cz g W a b hz64
     rw [hxe] at hE2;have hne := hZ.out.ne (fun i hi => hdX.out k i hlt hi);have hDv := fun W a => gDiv_ok F (ci (Yv k - pevI F.toDesc l (X k))) (ci (pevI F.toDesc z (X k))) g W a (by rw [eli_ci]; exact hne)
     rw [eli_ci,eli_ci] at hDv;obtain ⟨av,hav⟩ : ∃ av,av = ci ((Yv k - pevI F.toDesc l (X k)) * inv (pevI F.toDesc z (X k))) := ⟨_,rfl⟩;rw [← hav] at hDv;have hL2 := Lib.hid (hL.out.step hZ.out (fun i hi => hdX.out k i hlt hi) (a := av) (by rw [hav,eli_ci]));have hZ2 := Lib.hid hZ.out.step;have hCb := fun W a b d => Lib.hid (gComb_any F l z av Al Az cl cz g W a b d (by have := hL.out.1; omega) (by have := hZ.out.1; omega))
     have hN := fun W a => gNeg_any F x g W a
     rw [hxe] at hN;have hPr := fun A3 c3 W a b d => gProd_any F z [ci (-(X k)),1] Az A3 cz c3 g W a b d (by have := hZ.out.1; omega) (by simp)
     rw [show [ci (-(X k)),1].length = 2 from rfl] at hPr;unfold GivesO at hCb;unfold GivesR at hPr;replace hE1 := Lib.hid hE1;replace hS := fun W h => Lib.hid (hS W h)
     replace hE2 := fun W a b => Lib.hid (hE2 W a b)
     replace hDv := fun W a => Lib.hid (hDv W a)
     replace hN := fun W a => Lib.hid (hN W a)
     replace hPr := fun A3 c3 W a b d => Lib.hid (hPr A3 c3 W a b d)
     replace hx := Lib.hid hx;replace hy := Lib.hid hy;replace hav := Lib.hid hav;replace hxe := Lib.hid hxe;replace hye := Lib.hid hye;clear hc1 hc2 hne;go_wp2_with (fail);clear hd1;have hcc := Lib.hid hd2;have hb25 : b2 < w5.heap.size := Nat.lt_of_lt_of_le hb2 hbx.size;refine wp_region_held_drew (S := fun w' => w'.cell? ⟨b2,o2 + k,none⟩ = some (.int .i64 y)) (by kernel_rfl) (by (try dsimp only); exact hcc.out) (fun hHeld => ?_);refine tk 0 ?_; try simp only [pS]
     refine tk 1 ?_; try simp only [pS]
     refine tk 2 ?_; try simp only [pS]
     refine tk 3 ?_; try simp only [pS]
     refine tk 4 ?_; try simp only [pS]
     refine tk 5 ?_; try simp only [pS]
     refine tk 6 ?_; try simp only [pS]
     refine tk 7 ?_; try simp only [pS]
     refine rd 8 fun K hK => ?_
     go_simp;go_at_call 170;(with_reducible refine (hE1).out.mono ?_);rintro e w6 ⟨rfl,hb6⟩;have hcc6 := Lib.hid ((hb6.cell (p := ⟨b2,o2 + k,none⟩) hb25).trans hcc.out);have hs6 : w5.heap.size ≤ w6.heap.size := hb6.size;have hb56 : Below w5.heap.size w5 w6 := (Below.refl _ w5).drew.trans hb6;have hS6 := hS w6 ((hgx.below hb56).more hb56.size);go_wp2_with (fail);refine hK.out _ _ (by (try dsimp only); exact hcc6.out) (fun hHeld => ?_);clear hK K;try simp only [pS]
     refine rd 9 fun K hK => ?_
     go_simp;go_at_call 67;(with_reducible refine (hS6).out.mono ?_);rintro e w7 ⟨rfl,hb7⟩;go_wp2_with (fail);refine hK.out _ _ (by (try dsimp only); exact (hb7.cell (p := ⟨b2,o2 + k,none⟩) (Nat.lt_of_lt_of_le hb25 hs6)).trans hcc6.out) (fun hHeld => ?_);clear hK K;try simp only [pS]
     refine tk 10 ?_; try simp only [pS]
     refine wpAnyH_done (by kernel_rfl) ?_ _;have hb57 := hb56.trans (hb7.mono hs6);have hg7 := (hgx.below hb57).more hb57.size;have hrz7 := (hrz'.below hb57).more hb57.size;have hrl7 := (hrl.below hb57).more hb57.size;clear hd2;go_wp2_with (fail);(with_reducible refine (hE2 w7 hg7 hrz7).out.mono ?_);rintro e w8 ⟨rfl,hb8⟩;have hb58 := hb57.trans (hb8.mono hb57.size);have hg8 := (hg7.below hb8).more hb8.size;go_wp2_with (fail);(with_reducible refine (hDv w8 hg8).out.mono ?_);rintro e w9 ⟨rfl,hb9⟩;have hb59 := hb58.trans (hb9.mono hb58.size);have hg9 := (hg8.below hb9).more hb9.size;go_wp2_with (fail);(with_reducible refine (hCb w9 hg9 ((hrl.below hb59).more hb59.size) ((hrz'.below hb59).more hb59.size)).out.mono ?_);rintro e w10 ⟨A10,c10,rfl,ho10,hb10⟩;have hr10 : Rd w10 w10.heap.size A10 (combL F.toDesc l av z) := by obtain ⟨A',c',e',-,h',-⟩ := ho10.form; cases e'; exact h'
     have hb510 := hb59.trans (hb10.mono hb59.size);have hg10 := (hg9.below hb10).more hb10.size;go_wp2_with (fail);(with_reducible refine (hN w10 hg10).out.mono ?_);rintro e w11 ⟨rfl,hb11⟩;have hb511 := hb510.trans (hb11.mono hb510.size);have hg11 := (hg10.below hb11).more hb11.size;obtain ⟨Z11,hZ11⟩ : ∃ Z11,Z11 = w11.alloc (.cells #[.int .i64 (ci (-(X k))),.int .i64 1] 3) := ⟨_,rfl⟩;have hbZ : Below w11.heap.size w11 Z11 := by rw [hZ11]; exact (Below.refl _ _).alloc (Nat.le_refl _) _
     have hrq : Rd Z11 Z11.heap.size (some ⟨w11.heap.size,0,none⟩) [ci (-(X k)),1] := by rw [hZ11]; exact rd_new w11 [ci (-(X k)),1]
     replace hZ11 := Lib.hid hZ11;have hb5Z := hb511.trans (hbZ.mono hb511.size);have hPrZ := hPr (some ⟨w11.heap.size,0,none⟩) 2 Z11 ((hg11.below hbZ).more hbZ.size) ((hrz'.below hb5Z).more hb5Z.size) hrq;go_wp2_with (fail);rw [← hZ11.out];(with_reducible refine hPrZ.out.mono ?_);rintro e w12 ⟨A12,c12,rfl,hr12,hc12,hc12',hA12,hb12⟩;have hb1012 := (hb11.trans (hbZ.mono hb11.size)).trans (hb12.mono (Nat.le_trans hb11.size hbZ.size));have hr1012 := (hr10.below hb1012).more hb1012.size;have hb512 := hb510.trans (hb1012.mono hb510.size);have hA10' : Hid (Own w12 w.heap.size (.slice A10 (combL F.toDesc l av z).length c10) (combL F.toDesc l av z)) := (ho10.base (by have h2 := hb59.size; have h3 := hbx.size; omega)).below hb1012 (Nat.le_refl _);go_wp2_with (fail);go_roundw
     case rel => exact ⟨k + 1,_,_,A10,A12,c10,c12,by omega,by go_num,rfl,rfl,hr1012,hr12,hL2,hZ2,hA10',hbx.trans (hb512.mono hbx.size)⟩
     case measure => simp [intOf]; omega
    ·obtain rfl : n = k := by omega
     go_wp2_with (fail);go_ret2;exact ⟨l,Al,cl,rfl,hrl,hL.out,hAl.out,hbx⟩
end Go.Proofs.YtjdoneanohhkmaaGreat
