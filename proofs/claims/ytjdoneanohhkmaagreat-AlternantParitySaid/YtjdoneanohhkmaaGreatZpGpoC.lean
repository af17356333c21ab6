/- Layer 5 of the program: product. -/
import Derived.Test.YtjdoneanohhkmaaGreatZpPol5m
import Derived.Test.YtjdoneanohhkmaaGreatZpTk
namespace Go.Proofs.YtjdoneanohhkmaaGreat
open Go.RowKit Cw
attribute [local go_sem] Oper.semAt_some

def prodL (D : Desc) (p q : List Int) : List Int := if (canI D p).length = 0 ∨ (canI D q).length = 0 then [] else lst ((canI D p).length + (canI D q).length - 1) fun t => ci (conv (cfR D p) (cfR D q) t)
theorem cfR_canI_out (D : Desc) {p : List Int} {t : Nat} (h : (canI D p).length ≤ t) : cfR D p t = 0 := by rw [← cfR_canI]; exact cfR_out D h
theorem cfR_prodL (D : Desc) (p q : List Int) : cfR D (prodL D p q) = conv (cfR D p) (cfR D q) := funext fun t => by
 have hP := fun t h => cfR_canI_out D (p := p) (t := t) h
 have hQ := fun t h => cfR_canI_out D (p := q) (t := t) h
 unfold prodL;by_cases h : (canI D p).length = 0 ∨ (canI D q).length = 0
 ·rw [if_pos h,cfR_out D (by simp)];refine (rsum_eq_zero fun s _ => ?_).symm;rcases h with h | h
  ·rw [hP s (by omega),zero_mul]
  ·rw [hQ (t - s) (by omega),mul_zero]
 ·rw [if_neg h];by_cases ht : t < (canI D p).length + (canI D q).length - 1
  ·show eli D ((lst _ _)[t]?.getD 0) = _
   rw [lst_get _ ht,eli_ci]
  ·rw [cfR_out D (by rw [lst_length]; omega),conv_high hP hQ (by omega)]

set_option maxRecDepth 100000 in
set_option maxHeartbeats 4000000 in
theorem gProd_any (F : FD) (p q : List Int) (A1 A2 : Option Addr) (c1 c2 g : Nat) (w : World) (hg : GF w w.heap.size g F) (hr1 : Rd w w.heap.size A1 p) (hr2 : Rd w w.heap.size A2 q) (hl1 : p.length ≤ 20000) (hl2 : q.length ≤ 20000) :
  Calls Tryz.prog 176 #[.pointer (some ⟨g,0,none⟩),.slice A1 p.length c1,.slice A2 q.length c2] w (GivesR (prodL F.toDesc p q) w) := by
 have hC1 := fun W a b => gCanonP_any F p A1 c1 g W a b (by omega)
 have hC2 := fun W a b => gCanonP_any F q A2 c2 g W a b (by omega)
 have hle1 := canI_le F.toDesc p;have hle2 := canI_le F.toDesc q;obtain ⟨P,hP⟩ : ∃ P,P = cfR F.toDesc p := ⟨_,rfl⟩;obtain ⟨Q,hQ⟩ : ∃ Q,Q = cfR F.toDesc q := ⟨_,rfl⟩;have hpP : ∀ i,eli F.toDesc ((canI F.toDesc p)[i]?.getD 0) = P i := fun i => by rw [hP,← cfR_canI]; rfl
 have hqQ : ∀ i,eli F.toDesc ((canI F.toDesc q)[i]?.getD 0) = Q i := fun i => by rw [hQ,← cfR_canI]; rfl
 have hP0 : ∀ t,(canI F.toDesc p).length ≤ t → P t = 0 := fun t h => by rw [← hpP,List.getElem?_eq_none h]; exact eli_zero
 have hQ0 : ∀ t,(canI F.toDesc q).length ≤ t → Q t = 0 := fun t h => by rw [← hqQ,List.getElem?_eq_none h]; exact eli_zero
 have hres : prodL F.toDesc p q = if (canI F.toDesc p).length = 0 ∨ (canI F.toDesc q).length = 0 then [] else lst ((canI F.toDesc p).length + (canI F.toDesc q).length - 1) fun t => ci (convP P Q (canI F.toDesc p).length 0 t) := by
  unfold prodL;rw [← hP,← hQ];by_cases h : (canI F.toDesc p).length = 0 ∨ (canI F.toDesc q).length = 0
  ·rw [if_pos h,if_pos h]
  ·rw [if_neg h,if_neg h];exact lst_congr fun t _ => by rw [convP_full _ _ hP0]
 obtain ⟨p',hp'⟩ : ∃ p',p' = canI F.toDesc p := ⟨_,rfl⟩;obtain ⟨q',hq'⟩ : ∃ q',q' = canI F.toDesc q := ⟨_,rfl⟩;rw [← hp'] at hle1 hC1 hpP hP0 hres;rw [← hq'] at hle2 hC2 hqQ hQ0 hres;obtain ⟨N1,hN1⟩ : ∃ N1,N1 = p'.length := ⟨_,rfl⟩;obtain ⟨N2,hN2⟩ : ∃ N2,N2 = q'.length := ⟨_,rfl⟩;unfold GivesR at hC1 hC2;rw [← hN1] at hC1 hP0 hres hle1;rw [← hN2] at hC2 hQ0 hres hle2;replace hC1 := fun W a b => Lib.hid (hC1 W a b)
 replace hC2 := fun W a b => Lib.hid (hC2 W a b)
 have hN1s : N1 ≤ 20000 := by omega
 have hN2s : N2 ≤ 20000 := by omega
 replace hP := Lib.hid hP;replace hQ := Lib.hid hQ;replace hpP := Lib.hid hpP;replace hqQ := Lib.hid hqQ;replace hP0 := Lib.hid hP0;replace hQ0 := Lib.hid hQ0;replace hp' := Lib.hid hp';replace hq' := Lib.hid hq';replace hN1 := Lib.hid hN1;replace hN2 := Lib.hid hN2;replace hres := Lib.hid hres;clear hle1 hle2;go_enter Tryz.func176,Tryz.ntmps176;go_wp2_with (fail);(with_reducible refine (hC1 w hg hr1).out.mono ?_);rintro e w1 ⟨A3,c3,rfl,hr3,hc3,hc3',hA3,hb1⟩;go_wp2_with (fail);(with_reducible refine (hC2 w1 ((hg.below hb1).more hb1.size) ((hr2.below hb1).more hb1.size)).out.mono ?_);rintro e w2 ⟨A4,c4,rfl,hr4,hc4,hc4',hA4,hb2⟩;have hB2 := hb1.trans (hb2.mono hb1.size);have hr32 := (hr3.below hb2).more hb2.size;have hg2 := (hg.below hB2).more hB2.size;by_cases hz1 : N1 = 0
 ·have hzb : ((N1 : Int) == 0) = true := by rw [beq_iff_eq]; omega
  have hr0 : Hid (prodL F.toDesc p q = []) := hres.out.trans (if_pos (.inl hz1));clear hz1;go_wp2_with (fail);go_ret;exact ⟨none,0,by rw [hr0.out]; rfl,by rw [hr0.out]; exact Rd.nil,by rw [hr0.out]; exact Nat.le_refl _,Nat.zero_le _,(fun a e => (by cases e)),hB2⟩
 have hzb1 : ((N1 : Int) == 0) = false := by rw [beq_eq_false_iff_ne]; omega
 by_cases hz2 : N2 = 0
 ·have hzb : ((N2 : Int) == 0) = true := by rw [beq_iff_eq]; omega
  have hr0 : Hid (prodL F.toDesc p q = []) := hres.out.trans (if_pos (.inr hz2));clear hz2;go_wp2_with (fail);go_ret;exact ⟨none,0,by rw [hr0.out]; rfl,by rw [hr0.out]; exact Rd.nil,by rw [hr0.out]; exact Nat.le_refl _,Nat.zero_le _,(fun a e => (by cases e)),hB2⟩
 have hzb2 : ((N2 : Int) == 0) = false := by rw [beq_eq_false_iff_ne]; omega
 obtain ⟨L,hL⟩ : ∃ L,L = N1 + N2 - 1 := ⟨_,rfl⟩;have hr0 : Hid (prodL F.toDesc p q = lst L fun t => ci (convP P Q N1 0 t)) := by unfold Hid; rw [hres.out,if_neg (by omega),hL]
 have hw1 : IntKind.i64.wrap ((N1 : Int) + (N2 : Int)) = (N1 : Int) + (N2 : Int) := IntWalk.i64_in _ (by omega);have hw2 : IntKind.i64.wrap ((N1 : Int) + (N2 : Int) - 1) = (L : Int) := by rw [IntWalk.i64_in _ (by omega)]; omega
 have hmk := mk_ints L (by omega);obtain ⟨gb,hgb⟩ : ∃ gb,gb = w2.heap.size := ⟨_,rfl⟩;obtain ⟨Y,hY⟩ : ∃ Y,Y = w2.alloc (.cells (Array.replicate L (Value.int .i64 0)) 3) := ⟨_,rfl⟩;have hib : IB Y gb (lst L fun t => ci (convP P Q 0 0 t)) := by
  rw [hY,hgb,lst_congr (g := fun _ => 0) (fun i _ => by rw [convP_zero,ci_zero]),← lst_zero]; exact IB.newz w2 _
 have hbY : Below w2.heap.size w2 Y := by rw [hY]; exact (Below.refl _ _).alloc (Nat.le_refl _) _
 have hgw2 : w2.heap.size ≤ gb := Nat.le_of_eq hgb.symm;have hgw3 : gb ≤ w2.heap.size := Nat.le_of_eq hgb;have hgw : w.heap.size ≤ gb := by have := hB2.size; omega
 have hLle : ∀ i j,i < N1 → j < N2 → i + j < L := fun i j h1 h2 => by omega
 replace hLle := Lib.hid hLle;replace hL := Lib.hid hL;replace hY := Lib.hid hY;replace hgb := Lib.hid hgb;replace hib := Lib.hid hib;clear hz1 hz2 hC1 hC2;go_wp2_with (fail);rw [← hY.out];simp only [← hgb.out];go_loopw [35] (fun i wr => ∃ k : Nat,k ≤ N1 ∧ i = .int .i64 k ∧ Hid (IB wr gb (lst L fun t => ci (convP P Q k 0 t))) ∧ Below w2.heap.size w2 wr) (fun i _ => N1 - (intOf i).toNat)
 case atStart => exact ⟨0,by omega,rfl,hib,hbY⟩
 case round =>
  clear hib hbY hY;obtain ⟨wo,rfl⟩ : ∃ wo : World,wo = wr := ⟨_,rfl⟩;obtain ⟨i,hi,rfl,hib,hbw⟩ := hrel;by_cases hlt : i < N1
  ·have hi0 : (0 : Int) ≤ (i : Int) := by omega
   have hi1 : (i : Int) < (N1 : Int) := by omega
   obtain ⟨b3,o3,rfl,hb3,hc3x⟩ := hr32.at_ (by rw [← hN1.out]; exact hlt : i < p'.length);have hx1 := (hbw.cell (p := ⟨b3,o3 + i,none⟩) hb3).trans hc3x;obtain ⟨y1,hy1⟩ : ∃ y1,y1 = p'[i]?.getD 0 := ⟨_,rfl⟩;rw [← hy1] at hx1;replace hy1 := Lib.hid hy1;clear hc3x;go_wp2_with (fail);clear hx1;go_loopw [42] (fun j' wr => ∃ j : Nat,j ≤ N2 ∧ j' = .int .i64 j ∧ Hid (IB wr gb (lst L fun t => ci (convP P Q i j t))) ∧ Below w2.heap.size w2 wr) (fun j' _ => N2 - (intOf j').toNat)
   case atStart => exact ⟨0,by omega,rfl,hib,hbw⟩
   case round =>
    clear hib hbw;obtain ⟨wi,rfl⟩ : ∃ wi : World,wi = wr := ⟨_,rfl⟩;obtain ⟨j,hj,rfl,hib,hbw⟩ := hrel;by_cases hjl : j < N2
    ·have hj0 : (0 : Int) ≤ (j : Int) := by omega
     have hj1 : (j : Int) < (N2 : Int) := by omega
     have hij := hLle.out i j hlt hjl;obtain ⟨b4,o4,rfl,hb4,hc4x⟩ := hr4.at_ (by rw [← hN2.out]; exact hjl : j < q'.length);have hx2 := (hbw.cell (p := ⟨b4,o4 + j,none⟩) hb4).trans hc4x;have hx3 := hib.out.cell (i := i + j) (by rw [lst_length]; exact hij);rw [lst_get _ hij] at hx3;obtain ⟨y2,hy2⟩ : ∃ y2,y2 = q'[j]?.getD 0 := ⟨_,rfl⟩;obtain ⟨y3,hy3⟩ : ∃ y3,y3 = ci (convP P Q i j (i + j)) := ⟨_,rfl⟩;obtain ⟨y4,hy4⟩ : ∃ y4,y4 = ci (convP P Q i (j + 1) (i + j)) := ⟨_,rfl⟩;rw [← hy2] at hx2;rw [← hy3] at hx3;have hgi := (hg2.below hbw).more hbw.size;have hM := Lib.hid (gMul_any F y1 y2 g wi.drew hgi.drew);have hAd := fun W h => gAdd_any F y3 (ci (eli F.toDesc y1 * eli F.toDesc y2)) g W h
     have hs4 : ci (eli F.toDesc y3 + eli F.toDesc (ci (eli F.toDesc y1 * eli F.toDesc y2))) = y4 := by
      rw [hy4,convP_step,hy3,eli_ci,eli_ci,hy1.out,hy2,hpP.out,hqQ.out]
     rw [hs4] at hAd;replace hAd := fun W h => Lib.hid (hAd W h)
     obtain ⟨z,hz⟩ : ∃ z,z = ci (eli F.toDesc y1 * eli F.toDesc y2) := ⟨_,rfl⟩;rw [← hz] at hM hAd;have hset : Hid ((lst L fun t => ci (convP P Q i j t)).set (i + j) y4 = lst L fun t => ci (convP P Q i (j + 1) t)) := by
      unfold Hid;rw [lst_set];exact lst_congr fun t _ => by
       by_cases e : t = i + j
       ·rw [if_pos e,hy4,e]
       ·rw [if_neg e,convP_other _ _ e]
     have hwi : IntKind.i64.wrap ((i : Int) + (j : Int)) = (i : Int) + (j : Int) := IntWalk.i64_in _ (by omega);have hadd : (i : Int) + (j : Int) = ((i + j : Nat) : Int) := by omega
     have hij0 : (0 : Int) ≤ (i : Int) + (j : Int) := by omega
     have hij1 : (i : Int) + (j : Int) < (L : Int) := by omega
     have htn : ((i : Int) + (j : Int)).toNat = i + j := by omega
     have hgl := hib.out.lt;replace hy2 := Lib.hid hy2;replace hy3 := Lib.hid hy3;replace hy4 := Lib.hid hy4;replace hz := Lib.hid hz;replace hadd := Lib.hid hadd;clear hc4x hs4;go_wp2_with (fail);refine wp_region_held_drew (S := fun w' => True) (by kernel_rfl) (by (try dsimp only); all_goals trivial) (fun hHeld => ?_);refine tk 0 ?_; try simp only [pS]
     refine tk 1 ?_; try simp only [pS]
     refine tk 2 ?_; try simp only [pS]
     refine tk 3 ?_; try simp only [pS]
     refine tk 4 ?_; try simp only [pS]
     refine tk 5 ?_; try simp only [pS]
     refine tk 6 ?_; try simp only [pS]
     refine tk 7 ?_; try simp only [pS]
     refine tk 8 ?_; try simp only [pS]
     refine tk 9 ?_; try simp only [pS]
     refine tk 11 ?_; try simp only [pS]
     refine tk 12 ?_; try simp only [pS]
     refine tk 13 ?_; try simp only [pS]
     refine wpAnyH_ready (rs := [10,14]) (by kernel_rfl) (by simp) ?_;refine AllReadyH.cons (o := ⟨_,_,_,_,_,_⟩) rfl (fun K hK => ?_) ?_
     ·go_simp;refine hK.out _ _ (by (try dsimp only); all_goals trivial) (fun hHeld => ?_);clear hK K;try simp only [pS]
      refine rd 14 fun K hK => ?_
      go_simp;go_at_call 140;(with_reducible refine (hM).out.mono ?_);rintro e w6 ⟨rfl,hb6⟩;have hx6 := (hb6.cell (p := ⟨gb,i + j,none⟩) hgl).trans hx3;have hs6 : wi.heap.size ≤ w6.heap.size := hb6.size;have hA6 := hAd w6 ((hgi.drew.below hb6).more hb6.size);go_wp2_with (fail);refine hK.out _ _ (by (try dsimp only); all_goals trivial) (fun hHeld => ?_);clear hK K;try simp only [pS]
      refine rd 15 fun K hK => ?_
      go_simp;go_at_call 141;(with_reducible refine (hA6).out.mono ?_);rintro e w7 ⟨rfl,hb7⟩;have hb57 : Below wi.heap.size wi w7 := ((Below.refl _ wi).drew.trans hb6).trans (hb7.mono hs6);have hib7 := hib.out.below hb57 hgl;have hx7 := hib7.cell (i := i + j) (by rw [lst_length]; exact hij);have hf7 := hib7.frozen (i + j);go_wp2_with (fail);refine hK.out _ _ (by (try dsimp only); all_goals trivial) (fun hHeld => ?_);clear hK K;try simp only [pS]
      refine tk 16 ?_; try simp only [pS]
      refine rd 17 fun K hK => ?_
      go_simp;refine hK.out _ _ (by (try dsimp only); all_goals trivial) (fun hHeld => ?_);clear hK K;try simp only [pS]
      refine wpAnyH_done (by kernel_rfl) ?_ _;have hs7 := hib7.set_ (i + j) y4;rw [hset.out] at hs7;replace hs7 := Lib.hid hs7;have hbs : Below w2.heap.size w2 (w7.setCell ⟨gb,i + j,none⟩ (.int .i64 y4)) := (hbw.trans (hb57.mono hbw.size)).setCell (p := ⟨gb,i + j,none⟩) hgw2 _;clear hx6 hx7 hf7 hx3;go_wp2_with (fail);go_roundw
      case rel => exact ⟨j + 1,by omega,by go_num,hs7,hbs⟩
      case measure => simp [intOf]; omega
     refine AllReadyH.cons (o := ⟨_,_,_,_,_,_⟩) rfl (fun K hK => ?_) AllReadyH.nil;go_simp;go_at_call 140;(with_reducible refine (hM).out.mono ?_);rintro e w6 ⟨rfl,hb6⟩;have hx6 := (hb6.cell (p := ⟨gb,i + j,none⟩) hgl).trans hx3;have hs6 : wi.heap.size ≤ w6.heap.size := hb6.size;have hA6 := hAd w6 ((hgi.drew.below hb6).more hb6.size);go_wp2_with (fail);refine hK.out _ _ (by (try dsimp only); all_goals trivial) (fun hHeld => ?_);clear hK K;try simp only [pS]
     refine rd 10 fun K hK => ?_
     go_simp;refine hK.out _ _ (by (try dsimp only); all_goals trivial) (fun hHeld => ?_);clear hK K;try simp only [pS]
     refine rd 15 fun K hK => ?_
     go_simp;go_at_call 141;(with_reducible refine (hA6).out.mono ?_);rintro e w7 ⟨rfl,hb7⟩;have hb57 : Below wi.heap.size wi w7 := ((Below.refl _ wi).drew.trans hb6).trans (hb7.mono hs6);have hib7 := hib.out.below hb57 hgl;have hx7 := hib7.cell (i := i + j) (by rw [lst_length]; exact hij);have hf7 := hib7.frozen (i + j);go_wp2_with (fail);refine hK.out _ _ (by (try dsimp only); all_goals trivial) (fun hHeld => ?_);clear hK K;try simp only [pS]
     refine tk 16 ?_; try simp only [pS]
     refine rd 17 fun K hK => ?_
     go_simp;refine hK.out _ _ (by (try dsimp only); all_goals trivial) (fun hHeld => ?_);clear hK K;try simp only [pS]
     refine wpAnyH_done (by kernel_rfl) ?_ _;have hs7 := hib7.set_ (i + j) y4;rw [hset.out] at hs7;replace hs7 := Lib.hid hs7;have hbs : Below w2.heap.size w2 (w7.setCell ⟨gb,i + j,none⟩ (.int .i64 y4)) := (hbw.trans (hb57.mono hbw.size)).setCell (p := ⟨gb,i + j,none⟩) hgw2 _;clear hx6 hx7 hf7 hx3;go_wp2_with (fail);go_roundw
     case rel => exact ⟨j + 1,by omega,by go_num,hs7,hbs⟩
     case measure => simp [intOf]; omega
    ·obtain rfl : N2 = j := by omega
     have hrow : Hid ((lst L fun t => ci (convP P Q i N2 t)) = lst L fun t => ci (convP P Q (i + 1) 0 t)) := lst_congr fun t _ => by rw [convP_row _ _ hQ0.out]
     rw [hrow.out] at hib;go_wp2_with (fail);go_roundw
     case rel => exact ⟨i + 1,by omega,by go_num,hib,hbw⟩
     case measure => simp [intOf]; omega
  ·obtain rfl : N1 = i := by omega
   go_wp2_with (fail);go_ret;refine ⟨some ⟨gb,0,none⟩,L,by rw [hr0.out,lst_length]; rfl,by rw [hr0.out]; exact hib.out.rd,by rw [hr0.out,lst_length]; exact Nat.le_refl _,by have := hL.out; unfold maxLen; omega,fun a e => by cases e; exact hgw,hB2.trans (hbw.mono hB2.size)⟩
end Go.Proofs.YtjdoneanohhkmaaGreat
