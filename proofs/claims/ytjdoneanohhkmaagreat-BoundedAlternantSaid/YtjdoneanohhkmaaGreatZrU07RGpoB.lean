/- Layer 5 of the program: combine. -/
import Derived.Test.YtjdoneanohhkmaaGreatZrU07RFrR
import Derived.Test.YtjdoneanohhkmaaGreatZrU07RTk
namespace Go.Proofs.YtjdoneanohhkmaaGreat
open Go.RowKit Cw
attribute [local go_sem] Oper.semAt_some

def combF (D : Desc) (p : List Int) (a : Int) (q : List Int) : Nat → R D := fun i => cfR D p i + eli D a * cfR D q i
def combL (D : Desc) (p : List Int) (a : Int) (q : List Int) : List Int := canL (fun i => ci (combF D p a q i)) (max p.length q.length)
theorem cfR_combL (D : Desc) (p : List Int) (a : Int) (q : List Int) : cfR D (combL D p a q) = combF D p a q :=
 cfR_can _ _ fun i h => by unfold combF; rw [cfR_out D (by omega),cfR_out D (by omega),mul_zero,add_zero]
theorem combL_le (D : Desc) (p : List Int) (a : Int) (q : List Int) : (combL D p a q).length ≤ max p.length q.length := by unfold combL; rw [canL_length]; exact cdeg_le _ _
theorem upd_lst {n k : Nat} {f : Nat → Int} (h : ∀ i,k ≤ i → f i = 0) : upd n k f = lst n f := by
 unfold upd lst;refine List.map_congr_left fun i _ => ?_
 by_cases e : i < k
 ·rw [if_pos e]
 ·rw [if_neg e,h i (by omega)]
theorem mix_lst {n k : Nat} {f h : Nat → Int} (e : ∀ i,k ≤ i → h i = f i) : mix n k f h = lst n f := by
 unfold mix;exact lst_congr fun i _ => by
  by_cases e2 : i < k
  ·rw [if_pos e2]
  ·rw [if_neg e2,e i (by omega)]

def GivesO (l : List Int) (w : World) (e : Ending) (w' : World) : Prop :=
 ∃ A c,e = .returned (.slice A l.length c) ∧ Own w' w.heap.size (.slice A l.length c) l ∧ Below w.heap.size w w'
theorem Own.of_take {w : World} {g B n N : Nat} {f : Nat → Int} (h : IB w g (lst n f)) (hN : N ≤ n) (hB : B ≤ g) (hl : n ≤ maxLen) : Own w B (.slice (some ⟨g,0,none⟩) N n) (lst N f) := by
 unfold IB at h;refine ⟨by simp [lst_length],.inr ⟨g,n,((lst n f).map (Value.int .i64)).toArray,by rw [lst_length],hB,h,by rw [lst_length]; exact hN,hl,by simp [lst_length],?_⟩⟩;rw [lst_length,Nat.mul_one]
 show ((lst n f).map (Value.int .i64)).take N = _
 rw [← List.map_take,lst_take f hN]

set_option maxRecDepth 100000 in
set_option maxHeartbeats 4000000 in
theorem gComb_any (F : FD) (p q : List Int) (a : Int) (A1 A2 : Option Addr) (c1 c2 g : Nat) (w : World) (hg : GF w w.heap.size g F) (hr1 : Rd w w.heap.size A1 p) (hr2 : Rd w w.heap.size A2 q) (hl1 : p.length ≤ 70000) (hl2 : q.length ≤ 70000) :
  Calls Tryz.prog 262 #[.pointer (some ⟨g,0,none⟩),.slice A1 p.length c1,.int .i64 a,.slice A2 q.length c2] w (GivesO (combL F.toDesc p a q) w) := by
 obtain ⟨lp,hlp⟩ : ∃ lp,lp = p.length := ⟨_,rfl⟩;obtain ⟨lq,hlq⟩ : ∃ lq,lq = q.length := ⟨_,rfl⟩;obtain ⟨f1,hf1⟩ : ∃ f1,f1 = cfI F.toDesc p := ⟨_,rfl⟩;obtain ⟨f2,hf2⟩ : ∃ f2 : Nat → Int,f2 = fun i => ci (combF F.toDesc p a q i) := ⟨_,rfl⟩
 have hz1 : Hid (∀ i,lp ≤ i → f1 i = 0) := fun i hi => by rw [hf1]; exact cfI_out _ (by omega)
 have hz2 : Hid (∀ i,lq ≤ i → f1 i = f2 i) := fun i hi => by
  rw [hf1,hf2]; unfold combF; dsimp only;rw [cfR_out F.toDesc (p := q) (by omega),mul_zero,add_zero]; rfl
 have hcan : Hid (combL F.toDesc p a q = lst (cdeg f2 (max lp lq)) f2) := by unfold Hid; rw [hf2,hlp,hlq]; rfl
 have hst1 : Hid (∀ k,ci (eli F.toDesc (p[k]?.getD 0) + eli F.toDesc 0) = f1 k) := fun k => by rw [hf1,eli_zero,add_zero]; rfl
 have hst2 : Hid (∀ k,ci (eli F.toDesc (f1 k) + eli F.toDesc a * eli F.toDesc (q[k]?.getD 0)) = f2 k) := fun k => by
  rw [hf1,hf2]; unfold cfI combF; rw [eli_ci]; rfl
 have hlpH := Lib.hid hlp;have hlqH := Lib.hid hlq;rw [← hlp,← hlq];have hmp := mk_ints lp (by omega);have hmq := mk_ints lq (by omega);have hlp7 : lp ≤ 70000 := by omega
 have hlq7 : lq ≤ 70000 := by omega
 clear hlp hlq hf1 hf2;rcases Nat.lt_or_ge lp lq with hcmp | hcmp
 ·have hmx : (lp : Int) < (lq : Int) := by omega
  have hmax : Hid (max lp lq = lq) := by unfold Hid; omega
  replace hcmp := Lib.hid hcmp;have hT := fun A c W a b d => Lib.hid (gTrim_any lq f2 A c W a (by omega) b d)
  obtain ⟨gb,hgb⟩ : ∃ gb,gb = w.heap.size := ⟨_,rfl⟩;obtain ⟨Y,hY⟩ : ∃ Y,Y = w.alloc (.cells (Array.replicate lq (Value.int .i64 0)) 3) := ⟨_,rfl⟩;have hib : IB Y gb (upd lq 0 f1) := by rw [upd_zero,hY,hgb]; exact IB.newz w lq
  have hbY : Below w.heap.size w Y := by rw [hY]; exact (Below.refl _ _).alloc (Nat.le_refl _) _
  have hgw : w.heap.size ≤ gb := Nat.le_of_eq hgb.symm;have hgw2 : gb ≤ w.heap.size := Nat.le_of_eq hgb;replace hY := Lib.hid hY;replace hgb := Lib.hid hgb;go_enter Tryz.func262,Tryz.ntmps262;go_wp2_with (fail);rw [← hY.out,← hgb.out];go_loopw [22] (fun i wr => ∃ k : Nat,k ≤ lp ∧ i = .int .i64 k ∧ IB wr gb (upd lq k f1) ∧ Below w.heap.size w wr) (fun i _ => lp - (intOf i).toNat)
  case atStart => exact ⟨0,by omega,rfl,hib,hbY⟩
  case round =>
   obtain ⟨k,hk,rfl,hibk,hbw⟩ := hrel;obtain ⟨w3,rfl⟩ : ∃ w3 : World,w3 = wr := ⟨_,rfl⟩;clear hib hbY;by_cases hlt : k < lp
   ·have hk0 : (0 : Int) ≤ (k : Int) := by omega
    have hk1 : (k : Int) < (lp : Int) := by omega
    have hkn : k < lq := by have := hcmp.out; omega
    have hk2 : (k : Int) < (lq : Int) := by omega
    obtain ⟨b,o,rfl,hb,hc⟩ := hr1.at_ (by rw [← hlpH.out]; exact hlt : k < p.length);have hd := (hbw.cell (p := ⟨b,o + k,none⟩) hb).trans hc;have hA := gAdd_any F (p[k]?.getD 0) 0 g w3 ((hg.below hbw).more hbw.size);rw [hst1.out k] at hA;obtain ⟨y,hy⟩ : ∃ y,y = p[k]?.getD 0 := ⟨_,rfl⟩;obtain ⟨v,hv⟩ : ∃ v,v = f1 k := ⟨_,rfl⟩;rw [← hy] at hd hA;rw [← hv] at hA;replace hA := Lib.hid hA;replace hv := Lib.hid hv;replace hy := Lib.hid hy;have hg3 := hibk.lt;clear hc;go_wp2_with (fail);(with_reducible refine hA.out.mono ?_);rintro e w4 ⟨rfl,hb4⟩;have hib4 := hibk.below hb4 hg3;have hcW := hib4.cell (i := k) (by rw [upd_length]; exact hkn);have hfW := hib4.frozen k;have hset := hib4.set_ k v;rw [hv.out,upd_set,← hv.out] at hset;replace hset := Lib.hid hset;have hbs : Below w.heap.size w (w4.setCell ⟨gb,k,none⟩ (.int .i64 v)) := (hbw.trans (hb4.mono hbw.size)).setCell (p := ⟨gb,k,none⟩) hgw _;go_wp2_with (fail);go_roundw
    case rel => exact ⟨k + 1,by omega,by go_num,hset.out,hbs⟩
    case measure => simp [intOf]; omega
   ·obtain rfl : lp = k := by omega
    rw [upd_lst hz1.out,show lst lq f1 = mix lq 0 f2 f1 from (mix_zero lq f2 f1).symm] at hibk;go_wp2_with (fail);go_loopw [36] (fun i wr => ∃ k : Nat,k ≤ lq ∧ i = .int .i64 k ∧ IB wr gb (mix lq k f2 f1) ∧ Below w.heap.size w wr) (fun i _ => lq - (intOf i).toNat)
    case atStart => exact ⟨0,by omega,rfl,hibk,hbw⟩
    case round =>
     obtain ⟨k,hk,rfl,hib5,hbx⟩ := hrel;obtain ⟨w5,rfl⟩ : ∃ w5 : World,w5 = wr := ⟨_,rfl⟩;by_cases hlt : k < lq
     ·have hk0 : (0 : Int) ≤ (k : Int) := by omega
      have hk1 : (k : Int) < (lq : Int) := by omega
      have hkn : k < lq := by have := hcmp.out; omega
      have hk2 : (k : Int) < (lq : Int) := by omega
      obtain ⟨b,o,rfl,hb,hc⟩ := hr2.at_ (by rw [← hlqH.out]; exact hlt : k < q.length);have hd := (hbx.cell (p := ⟨b,o + k,none⟩) hb).trans hc;have hM := gMul_any F a (q[k]?.getD 0) g w5.drew ((hg.below hbx).more hbx.size).drew;have hAd := fun W h => gAdd_any F (f1 k) (ci (eli F.toDesc a * eli F.toDesc (q[k]?.getD 0))) g W h
      rw [eli_ci,hst2.out k] at hAd;obtain ⟨y,hy⟩ : ∃ y,y = q[k]?.getD 0 := ⟨_,rfl⟩;obtain ⟨x,hx⟩ : ∃ x,x = f1 k := ⟨_,rfl⟩;obtain ⟨v,hv⟩ : ∃ v,v = f2 k := ⟨_,rfl⟩;rw [← hy] at hd hM hAd;rw [← hx,← hv] at hAd;obtain ⟨z,hz⟩ : ∃ z,z = ci (eli F.toDesc a * eli F.toDesc y) := ⟨_,rfl⟩;rw [← hz] at hM hAd;have hcW := hib5.cell (i := k) (by rw [mix_length]; exact hkn);rw [mix_get_at f2 f1 hkn,← hx] at hcW;replace hM := Lib.hid hM;replace hAd := fun W h => Lib.hid (hAd W h)
      replace hz := Lib.hid hz;replace hx := Lib.hid hx;replace hv := Lib.hid hv;replace hy := Lib.hid hy;have hg5 := hib5.lt;have hgf5 := ((hg.below hbx).more hbx.size).drew;clear hc;go_wp2_with (fail);refine wp_region_held_drew (S := fun w' => True) (by kernel_rfl) (by (try dsimp only); all_goals trivial) (fun hHeld => ?_);refine tk 0 ?_; try simp only [pS]
      refine tk 1 ?_; try simp only [pS]
      refine tk 2 ?_; try simp only [pS]
      refine tk 3 ?_; try simp only [pS]
      refine tk 4 ?_; try simp only [pS]
      refine tk 5 ?_; try simp only [pS]
      refine tk 7 ?_; try simp only [pS]
      refine tk 8 ?_; try simp only [pS]
      refine tk 9 ?_; try simp only [pS]
      refine wpAnyH_ready (rs := [6,10]) (by kernel_rfl) (by simp) ?_;refine AllReadyH.cons (o := ⟨_,_,_,_,_,_⟩) rfl (fun K hK => ?_) ?_
      ·go_simp;refine hK.out _ _ (by (try dsimp only); all_goals trivial) (fun hHeld => ?_);clear hK K;try simp only [pS]
       refine rd 10 fun K hK => ?_
       go_simp;go_at_call 140;(with_reducible refine (hM).out.mono ?_);rintro e w6 ⟨rfl,hb6⟩;have hcW6 := (hb6.cell (p := ⟨gb,k,none⟩) hg5).trans hcW;have hs6 : w5.heap.size ≤ w6.heap.size := hb6.size;have hA6 := hAd w6 ((hgf5.below hb6).more hb6.size);go_wp2_with (fail);refine hK.out _ _ (by (try dsimp only); all_goals trivial) (fun hHeld => ?_);clear hK K;try simp only [pS]
       refine rd 11 fun K hK => ?_
       go_simp;go_at_call 141;(with_reducible refine (hA6).out.mono ?_);rintro e w7 ⟨rfl,hb7⟩;have hb57 : Below w5.heap.size w5 w7 := ((Below.refl _ w5).drew.trans hb6).trans (hb7.mono hs6);have hib7 := hib5.below hb57 hg5;have hcW7 := hib7.cell (i := k) (by rw [mix_length]; exact hkn);have hfW7 := hib7.frozen k;go_wp2_with (fail);refine hK.out _ _ (by (try dsimp only); all_goals trivial) (fun hHeld => ?_);clear hK K;try simp only [pS]
       refine tk 12 ?_; try simp only [pS]
       refine rd 13 fun K hK => ?_
       go_simp;refine hK.out _ _ (by (try dsimp only); all_goals trivial) (fun hHeld => ?_);clear hK K;try simp only [pS]
       refine wpAnyH_done (by kernel_rfl) ?_ _;have hset := hib7.set_ k v;rw [hv.out,mix_set,← hv.out] at hset;replace hset := Lib.hid hset;have hbs : Below w.heap.size w (w7.setCell ⟨gb,k,none⟩ (.int .i64 v)) := (hbx.trans (hb57.mono hbx.size)).setCell (p := ⟨gb,k,none⟩) hgw _;clear hcW7 hfW7 hcW6 hcW;go_wp2_with (fail);go_roundw
       case rel => exact ⟨k + 1,by omega,by go_num,hset.out,hbs⟩
       case measure => simp [intOf]; omega
      refine AllReadyH.cons (o := ⟨_,_,_,_,_,_⟩) rfl (fun K hK => ?_) AllReadyH.nil;go_simp;go_at_call 140;(with_reducible refine (hM).out.mono ?_);rintro e w6 ⟨rfl,hb6⟩;have hcW6 := (hb6.cell (p := ⟨gb,k,none⟩) hg5).trans hcW;have hs6 : w5.heap.size ≤ w6.heap.size := hb6.size;have hA6 := hAd w6 ((hgf5.below hb6).more hb6.size);go_wp2_with (fail);refine hK.out _ _ (by (try dsimp only); all_goals trivial) (fun hHeld => ?_);clear hK K;try simp only [pS]
      refine rd 6 fun K hK => ?_
      go_simp;refine hK.out _ _ (by (try dsimp only); all_goals trivial) (fun hHeld => ?_);clear hK K;try simp only [pS]
      refine rd 11 fun K hK => ?_
      go_simp;go_at_call 141;(with_reducible refine (hA6).out.mono ?_);rintro e w7 ⟨rfl,hb7⟩;have hb57 : Below w5.heap.size w5 w7 := ((Below.refl _ w5).drew.trans hb6).trans (hb7.mono hs6);have hib7 := hib5.below hb57 hg5;have hcW7 := hib7.cell (i := k) (by rw [mix_length]; exact hkn);have hfW7 := hib7.frozen k;go_wp2_with (fail);refine hK.out _ _ (by (try dsimp only); all_goals trivial) (fun hHeld => ?_);clear hK K;try simp only [pS]
      refine tk 12 ?_; try simp only [pS]
      refine rd 13 fun K hK => ?_
      go_simp;refine hK.out _ _ (by (try dsimp only); all_goals trivial) (fun hHeld => ?_);clear hK K;try simp only [pS]
      refine wpAnyH_done (by kernel_rfl) ?_ _;have hset := hib7.set_ k v;rw [hv.out,mix_set,← hv.out] at hset;replace hset := Lib.hid hset;have hbs : Below w.heap.size w (w7.setCell ⟨gb,k,none⟩ (.int .i64 v)) := (hbx.trans (hb57.mono hbx.size)).setCell (p := ⟨gb,k,none⟩) hgw _;clear hcW7 hfW7 hcW6 hcW;go_wp2_with (fail);go_roundw
      case rel => exact ⟨k + 1,by omega,by go_num,hset.out,hbs⟩
      case measure => simp [intOf]; omega
     ·obtain rfl : lq = k := by omega
      rw [mix_lst hz2.out] at hib5;have hT5 := hT (some ⟨gb,0,none⟩) lq w5 hib5.rd (Nat.le_refl _) (by unfold maxLen; omega);have hle := cdeg_le f2 lq;go_wp2_with (fail);(with_reducible refine hT5.out.mono ?_);rintro e w8 ⟨rfl,rfl⟩;go_wp2_with (fail);go_ret;refine ⟨some ⟨gb,0,none⟩,lq,by rw [hcan.out,hmax.out,lst_length]; rfl,by rw [hcan.out,hmax.out,lst_length]; exact Own.of_take hib5 hle hgw (by unfold maxLen; omega),hbx⟩
 ·have hmx : ¬ (lp : Int) < (lq : Int) := by omega
  have hmx2 : (lq : Int) ≤ (lp : Int) := by omega
  have hmax : Hid (max lp lq = lp) := by unfold Hid; omega
  replace hcmp := Lib.hid hcmp;have hT := fun A c W a b d => Lib.hid (gTrim_any lp f2 A c W a (by omega) b d)
  obtain ⟨gb,hgb⟩ : ∃ gb,gb = w.heap.size := ⟨_,rfl⟩;obtain ⟨Y,hY⟩ : ∃ Y,Y = w.alloc (.cells (Array.replicate lp (Value.int .i64 0)) 3) := ⟨_,rfl⟩;have hib : IB Y gb (upd lp 0 f1) := by rw [upd_zero,hY,hgb]; exact IB.newz w lp
  have hbY : Below w.heap.size w Y := by rw [hY]; exact (Below.refl _ _).alloc (Nat.le_refl _) _
  have hgw : w.heap.size ≤ gb := Nat.le_of_eq hgb.symm;have hgw2 : gb ≤ w.heap.size := Nat.le_of_eq hgb;replace hY := Lib.hid hY;replace hgb := Lib.hid hgb;go_enter Tryz.func262,Tryz.ntmps262;go_wp2_with (fail);rw [← hY.out,← hgb.out];go_loopw [22] (fun i wr => ∃ k : Nat,k ≤ lp ∧ i = .int .i64 k ∧ IB wr gb (upd lp k f1) ∧ Below w.heap.size w wr) (fun i _ => lp - (intOf i).toNat)
  case atStart => exact ⟨0,by omega,rfl,hib,hbY⟩
  case round =>
   obtain ⟨k,hk,rfl,hibk,hbw⟩ := hrel;obtain ⟨w3,rfl⟩ : ∃ w3 : World,w3 = wr := ⟨_,rfl⟩;clear hib hbY;by_cases hlt : k < lp
   ·have hk0 : (0 : Int) ≤ (k : Int) := by omega
    have hk1 : (k : Int) < (lp : Int) := by omega
    have hkn : k < lp := by have := hcmp.out; omega
    have hk2 : (k : Int) < (lp : Int) := by omega
    obtain ⟨b,o,rfl,hb,hc⟩ := hr1.at_ (by rw [← hlpH.out]; exact hlt : k < p.length);have hd := (hbw.cell (p := ⟨b,o + k,none⟩) hb).trans hc;have hA := gAdd_any F (p[k]?.getD 0) 0 g w3 ((hg.below hbw).more hbw.size);rw [hst1.out k] at hA;obtain ⟨y,hy⟩ : ∃ y,y = p[k]?.getD 0 := ⟨_,rfl⟩;obtain ⟨v,hv⟩ : ∃ v,v = f1 k := ⟨_,rfl⟩;rw [← hy] at hd hA;rw [← hv] at hA;replace hA := Lib.hid hA;replace hv := Lib.hid hv;replace hy := Lib.hid hy;have hg3 := hibk.lt;clear hc;go_wp2_with (fail);(with_reducible refine hA.out.mono ?_);rintro e w4 ⟨rfl,hb4⟩;have hib4 := hibk.below hb4 hg3;have hcW := hib4.cell (i := k) (by rw [upd_length]; exact hkn);have hfW := hib4.frozen k;have hset := hib4.set_ k v;rw [hv.out,upd_set,← hv.out] at hset;replace hset := Lib.hid hset;have hbs : Below w.heap.size w (w4.setCell ⟨gb,k,none⟩ (.int .i64 v)) := (hbw.trans (hb4.mono hbw.size)).setCell (p := ⟨gb,k,none⟩) hgw _;go_wp2_with (fail);go_roundw
    case rel => exact ⟨k + 1,by omega,by go_num,hset.out,hbs⟩
    case measure => simp [intOf]; omega
   ·obtain rfl : lp = k := by omega
    rw [upd_lst hz1.out,show lst lp f1 = mix lp 0 f2 f1 from (mix_zero lp f2 f1).symm] at hibk;go_wp2_with (fail);go_loopw [36] (fun i wr => ∃ k : Nat,k ≤ lq ∧ i = .int .i64 k ∧ IB wr gb (mix lp k f2 f1) ∧ Below w.heap.size w wr) (fun i _ => lq - (intOf i).toNat)
    case atStart => exact ⟨0,by omega,rfl,hibk,hbw⟩
    case round =>
     obtain ⟨k,hk,rfl,hib5,hbx⟩ := hrel;obtain ⟨w5,rfl⟩ : ∃ w5 : World,w5 = wr := ⟨_,rfl⟩;by_cases hlt : k < lq
     ·have hk0 : (0 : Int) ≤ (k : Int) := by omega
      have hk1 : (k : Int) < (lq : Int) := by omega
      have hkn : k < lp := by have := hcmp.out; omega
      have hk2 : (k : Int) < (lp : Int) := by omega
      obtain ⟨b,o,rfl,hb,hc⟩ := hr2.at_ (by rw [← hlqH.out]; exact hlt : k < q.length);have hd := (hbx.cell (p := ⟨b,o + k,none⟩) hb).trans hc;have hM := gMul_any F a (q[k]?.getD 0) g w5.drew ((hg.below hbx).more hbx.size).drew;have hAd := fun W h => gAdd_any F (f1 k) (ci (eli F.toDesc a * eli F.toDesc (q[k]?.getD 0))) g W h
      rw [eli_ci,hst2.out k] at hAd;obtain ⟨y,hy⟩ : ∃ y,y = q[k]?.getD 0 := ⟨_,rfl⟩;obtain ⟨x,hx⟩ : ∃ x,x = f1 k := ⟨_,rfl⟩;obtain ⟨v,hv⟩ : ∃ v,v = f2 k := ⟨_,rfl⟩;rw [← hy] at hd hM hAd;rw [← hx,← hv] at hAd;obtain ⟨z,hz⟩ : ∃ z,z = ci (eli F.toDesc a * eli F.toDesc y) := ⟨_,rfl⟩;rw [← hz] at hM hAd;have hcW := hib5.cell (i := k) (by rw [mix_length]; exact hkn);rw [mix_get_at f2 f1 hkn,← hx] at hcW;replace hM := Lib.hid hM;replace hAd := fun W h => Lib.hid (hAd W h)
      replace hz := Lib.hid hz;replace hx := Lib.hid hx;replace hv := Lib.hid hv;replace hy := Lib.hid hy;have hg5 := hib5.lt;have hgf5 := ((hg.below hbx).more hbx.size).drew;clear hc;go_wp2_with (fail);refine wp_region_held_drew (S := fun w' => True) (by kernel_rfl) (by (try dsimp only); all_goals trivial) (fun hHeld => ?_);refine tk 0 ?_; try simp only [pS]
      refine tk 1 ?_; try simp only [pS]
      refine tk 2 ?_; try simp only [pS]
      refine tk 3 ?_; try simp only [pS]
      refine tk 4 ?_; try simp only [pS]
      refine tk 5 ?_; try simp only [pS]
      refine tk 7 ?_; try simp only [pS]
      refine tk 8 ?_; try simp only [pS]
      refine tk 9 ?_; try simp only [pS]
      refine wpAnyH_ready (rs := [6,10]) (by kernel_rfl) (by simp) ?_;refine AllReadyH.cons (o := ⟨_,_,_,_,_,_⟩) rfl (fun K hK => ?_) ?_
      ·go_simp;refine hK.out _ _ (by (try dsimp only); all_goals trivial) (fun hHeld => ?_);clear hK K;try simp only [pS]
       refine rd 10 fun K hK => ?_
       go_simp;go_at_call 140;(with_reducible refine (hM).out.mono ?_);rintro e w6 ⟨rfl,hb6⟩;have hcW6 := (hb6.cell (p := ⟨gb,k,none⟩) hg5).trans hcW;have hs6 : w5.heap.size ≤ w6.heap.size := hb6.size;have hA6 := hAd w6 ((hgf5.below hb6).more hb6.size);go_wp2_with (fail);refine hK.out _ _ (by (try dsimp only); all_goals trivial) (fun hHeld => ?_);clear hK K;try simp only [pS]
       refine rd 11 fun K hK => ?_
       go_simp;go_at_call 141;(with_reducible refine (hA6).out.mono ?_);rintro e w7 ⟨rfl,hb7⟩;have hb57 : Below w5.heap.size w5 w7 := ((Below.refl _ w5).drew.trans hb6).trans (hb7.mono hs6);have hib7 := hib5.below hb57 hg5;have hcW7 := hib7.cell (i := k) (by rw [mix_length]; exact hkn);have hfW7 := hib7.frozen k;go_wp2_with (fail);refine hK.out _ _ (by (try dsimp only); all_goals trivial) (fun hHeld => ?_);clear hK K;try simp only [pS]
       refine tk 12 ?_; try simp only [pS]
       refine rd 13 fun K hK => ?_
       go_simp;refine hK.out _ _ (by (try dsimp only); all_goals trivial) (fun hHeld => ?_);clear hK K;try simp only [pS]
       refine wpAnyH_done (by kernel_rfl) ?_ _;have hset := hib7.set_ k v;rw [hv.out,mix_set,← hv.out] at hset;replace hset := Lib.hid hset;have hbs : Below w.heap.size w (w7.setCell ⟨gb,k,none⟩ (.int .i64 v)) := (hbx.trans (hb57.mono hbx.size)).setCell (p := ⟨gb,k,none⟩) hgw _;clear hcW7 hfW7 hcW6 hcW;go_wp2_with (fail);go_roundw
       case rel => exact ⟨k + 1,by omega,by go_num,hset.out,hbs⟩
       case measure => simp [intOf]; omega
      refine AllReadyH.cons (o := ⟨_,_,_,_,_,_⟩) rfl (fun K hK => ?_) AllReadyH.nil;go_simp;go_at_call 140;(with_reducible refine (hM).out.mono ?_);rintro e w6 ⟨rfl,hb6⟩;have hcW6 := (hb6.cell (p := ⟨gb,k,none⟩) hg5).trans hcW;have hs6 : w5.heap.size ≤ w6.heap.size := hb6.size;have hA6 := hAd w6 ((hgf5.below hb6).more hb6.size);go_wp2_with (fail);refine hK.out _ _ (by (try dsimp only); all_goals trivial) (fun hHeld => ?_);clear hK K;try simp only [pS]
      refine rd 6 fun K hK => ?_
      go_simp;refine hK.out _ _ (by (try dsimp only); all_goals trivial) (fun hHeld => ?_);clear hK K;try simp only [pS]
      refine rd 11 fun K hK => ?_
      go_simp;go_at_call 141;(with_reducible refine (hA6).out.mono ?_);rintro e w7 ⟨rfl,hb7⟩;have hb57 : Below w5.heap.size w5 w7 := ((Below.refl _ w5).drew.trans hb6).trans (hb7.mono hs6);have hib7 := hib5.below hb57 hg5;have hcW7 := hib7.cell (i := k) (by rw [mix_length]; exact hkn);have hfW7 := hib7.frozen k;go_wp2_with (fail);refine hK.out _ _ (by (try dsimp only); all_goals trivial) (fun hHeld => ?_);clear hK K;try simp only [pS]
      refine tk 12 ?_; try simp only [pS]
      refine rd 13 fun K hK => ?_
      go_simp;refine hK.out _ _ (by (try dsimp only); all_goals trivial) (fun hHeld => ?_);clear hK K;try simp only [pS]
      refine wpAnyH_done (by kernel_rfl) ?_ _;have hset := hib7.set_ k v;rw [hv.out,mix_set,← hv.out] at hset;replace hset := Lib.hid hset;have hbs : Below w.heap.size w (w7.setCell ⟨gb,k,none⟩ (.int .i64 v)) := (hbx.trans (hb57.mono hbx.size)).setCell (p := ⟨gb,k,none⟩) hgw _;clear hcW7 hfW7 hcW6 hcW;go_wp2_with (fail);go_roundw
      case rel => exact ⟨k + 1,by omega,by go_num,hset.out,hbs⟩
      case measure => simp [intOf]; omega
     ·obtain rfl : lq = k := by omega
      rw [mix_lst hz2.out] at hib5;have hT5 := hT (some ⟨gb,0,none⟩) lp w5 hib5.rd (Nat.le_refl _) (by unfold maxLen; omega);have hle := cdeg_le f2 lp;go_wp2_with (fail);(with_reducible refine hT5.out.mono ?_);rintro e w8 ⟨rfl,rfl⟩;go_wp2_with (fail);go_ret;refine ⟨some ⟨gb,0,none⟩,lp,by rw [hcan.out,hmax.out,lst_length]; rfl,by rw [hcan.out,hmax.out,lst_length]; exact Own.of_take hib5 hle hgw (by unfold maxLen; omega),hbx⟩
end Go.Proofs.YtjdoneanohhkmaaGreat
