/- The reference's polynomials: Canon. Layer 5 of the program: trim, Canon, combine. The reference's polynomials: Mul. Layer 5 of the program: product. The reference's polynomials: FromRoots. Layer 5 of the program: FromRoots. Plain law of layer 18: the codeword whose message polynomial is 0 at given points. No Go here. -/
import Derived.IntWalk
import Derived.Test.YtjdoneanohhkmaaGreatZrU07RP1
import Derived.Test.YtjdoneanohhkmaaGreatZrU07RGrsA
import Derived.Test.YtjdoneanohhkmaaGreatZrU07RGrsU
import Derived.Test.YtjdoneanohhkmaaGreatZrU07RTk
namespace Go.Proofs.YtjdoneanohhkmaaGreat
section
open Go.RowKit Cw

def cfR (D : Desc) (p : List Int) : Nat → R D := fun i => eli D (p[i]?.getD 0)
def cfI (D : Desc) (p : List Int) : Nat → Int := fun i => ci (cfR D p i)
theorem cfR_out (D : Desc) {p : List Int} {i : Nat} (h : p.length ≤ i) : cfR D p i = 0 := by
 unfold cfR; rw [List.getElem?_eq_none h]; exact eli_zero
theorem cfI_out (D : Desc) {p : List Int} {i : Nat} (h : p.length ≤ i) : cfI D p i = 0 := by
 unfold cfI; rw [cfR_out D h,ci_zero]
theorem cfR_can {D : Desc} (f : Nat → R D) (n : Nat) (h : ∀ i,n ≤ i → f i = 0) : cfR D (canL (fun i => ci (f i)) n) = f := funext fun i => by
 unfold cfR;by_cases hi : i < n
 ·rw [canL_get _ hi,eli_ci]
 ·rw [canL_out _ (by omega),h i (by omega)]; exact eli_zero
def canI (D : Desc) (p : List Int) : List Int := canL (cfI D p) p.length
theorem canI_le (D : Desc) (p : List Int) : (canI D p).length ≤ p.length := by unfold canI; rw [canL_length]; exact cdeg_le _ _
theorem cfR_canI (D : Desc) (p : List Int) : cfR D (canI D p) = cfR D p := cfR_can (cfR D p) p.length fun _ h => cfR_out D h
end
section
open Go.RowKit Cw
attribute [local go_sem] Oper.semAt_some

theorem wrap_pred {k k' : Nat} (h : k = k' + 1) (hk : k ≤ 1000000) : IntKind.i64.wrap ((k : Int) - 1) = (k' : Int) := by
 rw [IntWalk.i64_in _ (by omega)]; omega
def GivesR (l : List Int) (w : World) (e : Ending) (w' : World) : Prop :=
 ∃ A c,e = .returned (.slice A l.length c) ∧ Rd w' w'.heap.size A l ∧ l.length ≤ c ∧ c ≤ maxLen ∧ (∀ a,A = some a → w.heap.size ≤ a.block) ∧ Below w.heap.size w w'
theorem Rd.lst_take {w : World} {B n N : Nat} {A : Option Addr} {f : Nat → Int} (h : Rd w B A (lst n f)) (hN : N ≤ n) : Rd w B A (lst N f) := fun hp => by
 rw [lst_length] at hp;obtain ⟨b,off,e,hb,hc⟩ := h (by rw [lst_length]; omega);refine ⟨b,off,e,hb,fun j hj => ?_⟩;rw [lst_length] at hj;have := hc j (by rw [lst_length]; omega);rw [lst_get _ (by omega)] at this;rw [lst_get _ hj]; exact this

set_option maxHeartbeats 1000000 in
theorem gTrim_any (n : Nat) (f : Nat → Int) (A : Option Addr) (c : Nat) (w : World) (hr : Rd w w.heap.size A (lst n f)) (hn : n ≤ 1000000) (hc : n ≤ c) (_hc' : c ≤ maxLen) :
  Calls Tryz.prog 221 #[.slice A n c] w fun e w' => e = .returned (.slice A (cdeg f n) c) ∧ w = w' := by
 go_enter Tryz.func221,Tryz.ntmps221;go_wp2_with (fail);go_loop [0] (fun v => ∃ k : Nat,k ≤ n ∧ v = .slice A k c ∧ Hid (cdeg f n = cdeg f k)) (fun v => lenV v)
 case atStart => exact ⟨n,Nat.le_refl _,rfl,rfl⟩
 case round =>
  obtain ⟨k,hk,rfl,hd⟩ := hrel;rcases Nat.eq_zero_or_pos k with h0 | hpos
  ·subst h0;go_wp2_with (fail);go_ret;exact ⟨by rw [hd.out]; rfl,rfl⟩
  ·obtain ⟨k',hk'⟩ : ∃ k',k = k' + 1 := ⟨k - 1,by omega⟩;have hwr := wrap_pred hk' (by omega);obtain ⟨b,o,rfl,-,hcell⟩ := hr.at_ (by rw [lst_length]; omega : k' < (lst n f).length);rw [lst_get _ (by omega)] at hcell;have hk0 : (0 : Int) < (k : Int) := by omega
   have hj0 : (0 : Int) ≤ (k' : Int) := by omega
   have hj1 : (k' : Int) < (k : Int) := by omega
   have hj2 : (k' : Int) ≤ (c : Int) := by omega
   obtain ⟨y,hy⟩ : ∃ y,y = f k' := ⟨_,rfl⟩;rw [← hy] at hcell;by_cases hz : y = 0
   ·have hzb : (y == 0) = true := by rw [beq_iff_eq]; exact hz
    have hd2 : Hid (cdeg f n = cdeg f k') := by unfold Hid; rw [hd.out,hk',cdeg_yes (by rw [← hy]; exact hz)]
    replace hk' := Lib.hid hk';clear hz hy hd;go_wp2_with (fail);go_round
    case rel => exact ⟨k',by have := hk'.out; omega,rfl,hd2⟩
    case measure => simp [lenV]; have := hk'.out; omega
   ·have hzb : (y == 0) = false := by rw [beq_eq_false_iff_ne]; exact hz
    have hd2 : Hid (cdeg f n = k) := by unfold Hid; rw [hd.out,hk',cdeg_no (by rw [← hy]; exact hz)]
    replace hk' := Lib.hid hk';clear hz hy hd;go_wp2_with (fail);go_ret;exact ⟨by rw [hd2.out]; rfl,rfl⟩

set_option maxHeartbeats 2000000 in
theorem gCanonP_box (F : FD) (p : List Int) (A1 : Option Addr) (c1 g : Nat) (w : World) (hg : GF w w.heap.size g F) (hr1 : Rd w w.heap.size A1 p) (hl : p.length ≤ 70000) :
  Calls Tryz.prog 218 #[.pointer (some ⟨g,0,none⟩),.slice A1 p.length c1] w fun e w' => ∃ gb,e = .returned (.slice (some ⟨gb,0,none⟩) (canI F.toDesc p).length p.length) ∧ w.heap.size ≤ gb ∧ IB w' gb (lst p.length (cfI F.toDesc p)) ∧ Below w.heap.size w w' := by
 obtain ⟨n,hn⟩ : ∃ n,n = p.length := ⟨_,rfl⟩;have hmk := mk_ints n (by omega);obtain ⟨f,hf⟩ : ∃ f,f = cfI F.toDesc p := ⟨_,rfl⟩;have hfk : ∀ k,f k = if decide (0 ≤ p[k]?.getD 0 ∧ p[k]?.getD 0 < (F.q : Int)) = true then p[k]?.getD 0 else 0 := fun k => by
  rw [hf];unfold cfI cfR;by_cases h : 0 ≤ p[k]?.getD 0 ∧ p[k]?.getD 0 < (F.q : Int)
  ·rw [if_pos (decide_eq_true h)]; exact ci_eli_in h
  ·rw [if_neg (by rw [decide_eq_false h]; decide)];unfold eli;rw [if_neg h]; exact ci_zero
 have hcan : Hid (canI F.toDesc p = lst (cdeg f n) f) := by rw [hf,hn]; rfl
 have hT := fun A c W a b d => Lib.hid (gTrim_any n f A c W a (by omega) b d)
 obtain ⟨gb,hgb⟩ : ∃ gb,gb = w.heap.size := ⟨_,rfl⟩;obtain ⟨Y,hY⟩ : ∃ Y,Y = w.alloc (.cells (Array.replicate n (Value.int .i64 0)) 3) := ⟨_,rfl⟩;have hib : IB Y gb (upd n 0 f) := by rw [upd_zero,hY,hgb]; exact IB.newz w n
 have hbY : Below w.heap.size w Y := by rw [hY]; exact (Below.refl _ _).alloc (Nat.le_refl _) _
 have hgw : w.heap.size ≤ gb := Nat.le_of_eq hgb.symm;have hgw2 : gb ≤ w.heap.size := Nat.le_of_eq hgb;have hnp := Lib.hid hn;have hn7 : n ≤ 70000 := by omega
 rw [← hn];replace hY := Lib.hid hY;replace hgb := Lib.hid hgb;replace hf := Lib.hid hf;clear hn;go_enter Tryz.func218,Tryz.ntmps218;go_wp2_with (fail);rw [← hY.out,← hgb.out];go_loopw [13] (fun i wr => ∃ k : Nat,k ≤ n ∧ i = .int .i64 k ∧ IB wr gb (upd n k f) ∧ Below w.heap.size w wr) (fun i _ => n - (intOf i).toNat)
 case atStart => exact ⟨0,by omega,rfl,hib,hbY⟩
 case round =>
  obtain ⟨k,hk,rfl,hibk,hbw⟩ := hrel;obtain ⟨w3,rfl⟩ : ∃ w3 : World,w3 = wr := ⟨_,rfl⟩;clear hib hbY;by_cases hlt : k < n
  ·have hk0 : (0 : Int) ≤ (k : Int) := by omega
   have hk1 : (k : Int) < (n : Int) := by omega
   obtain ⟨b,o,rfl,hb,hc⟩ := hr1.at_ (by rw [← hnp.out]; exact hlt : k < p.length);have hd := (hbw.cell (p := ⟨b,o + k,none⟩) hb).trans hc;obtain ⟨y,hy⟩ : ∃ y,y = p[k]?.getD 0 := ⟨_,rfl⟩;have hfy := hfk k;rw [← hy] at hd hfy;have hI := gIs_any F y g w3 ((hg.below hbw).more hbw.size);have hkk : k < (upd n k f).length := by rw [upd_length]; exact hlt
   have hcW := hibk.cell hkk;have hfW := hibk.frozen k;have hset := hibk.set_ k (f k);rw [upd_set] at hset;have hbs : Below w.heap.size w (w3.setCell ⟨gb,k,none⟩ (.int .i64 (f k))) := hbw.setCell (p := ⟨gb,k,none⟩) hgw _;have hz0 : f k = 0 → IB w3 gb (upd n (k + 1) f) := fun e => by
    have h := upd_set n k f;have h2 : (upd n k f).set k (f k) = upd n k f := by
     rw [e];apply List.ext_getElem
     ·simp
     ·intro i h3 h4;rw [List.getElem_set];by_cases e2 : k = i
      ·rw [if_pos e2];have h5 := upd_get (n := n) (k := k) (i := i) f (by simpa [upd_length] using h4);rw [if_neg (by omega),List.getElem?_eq_getElem h4,Option.getD_some] at h5;exact h5.symm
      ·rw [if_neg e2]
    rw [← h,h2]; exact hibk
   replace hy := Lib.hid hy
   cases hde : decide (0 ≤ y ∧ y < (F.q : Int)) with
   | true =>
    rw [hde] at hI hfy;rw [if_pos rfl] at hfy;rw [hfy] at hset hbs;replace hI := Lib.hid hI;replace hset := Lib.hid hset;clear hc hde hfy hz0 hkk;go_wp2_with (fail);(with_reducible refine hI.out.mono ?_);rintro e w4 ⟨rfl,rfl⟩;go_wp2_with (fail);go_roundw
    case rel => exact ⟨k + 1,by omega,by go_num,hset.out,hbs⟩
    case measure => simp [intOf]; omega
   | false =>
    rw [hde] at hI hfy;rw [if_neg (by decide)] at hfy;have hib2 := Lib.hid (hz0 hfy);replace hI := Lib.hid hI;clear hc hde hfy hz0 hkk hset hbs hcW hfW;go_wp2_with (fail);(with_reducible refine hI.out.mono ?_);rintro e w4 ⟨rfl,rfl⟩;go_wp2_with (fail);go_roundw
    case rel => exact ⟨k + 1,by omega,by go_num,hib2.out,hbw⟩
    case measure => simp [intOf]; omega
  ·obtain rfl : k = n := by omega
   rw [upd_full] at hibk;have hT3 := hT (some ⟨gb,0,none⟩) k w3 hibk.rd (Nat.le_refl _) (by unfold maxLen; omega);have hle := cdeg_le f k;go_wp2_with (fail);(with_reducible refine hT3.out.mono ?_);rintro e w4 ⟨rfl,rfl⟩;go_wp2_with (fail);go_ret;exact ⟨gb,by rw [hcan.out,lst_length]; rfl,hgw,by rw [← hf.out]; exact hibk,hbw⟩
theorem gCanonP_any (F : FD) (p : List Int) (A1 : Option Addr) (c1 g : Nat) (w : World) (hg : GF w w.heap.size g F) (hr1 : Rd w w.heap.size A1 p) (hl : p.length ≤ 70000) :
  Calls Tryz.prog 218 #[.pointer (some ⟨g,0,none⟩),.slice A1 p.length c1] w (GivesR (canI F.toDesc p) w) :=
 (gCanonP_box F p A1 c1 g w hg hr1 hl).mono fun e w' ⟨gb,he,h1,h2,h3⟩ => by
  have hle := canI_le F.toDesc p;have hc : canI F.toDesc p = lst (canI F.toDesc p).length (cfI F.toDesc p) := by unfold canI; rw [canL_length]; rfl
  refine ⟨some ⟨gb,0,none⟩,p.length,he,?_,hle,by unfold maxLen; omega,fun a e => by cases e; exact h1,h3⟩;rw [hc]; exact h2.rd.lst_take hle
end
section
open Go.RowKit Cw

def mulI (D : Desc) (p q : List Int) : List Int := canL (fun t => ci (conv (cfR D p) (cfR D q) t)) (p.length + q.length)
theorem cfR_mulI (D : Desc) (p q : List Int) : cfR D (mulI D p q) = conv (cfR D p) (cfR D q) :=
 cfR_can _ _ fun _ h => conv_high (fun _ h => cfR_out D h) (fun _ h => cfR_out D h) (by omega)
end
section
open Go.RowKit Cw
attribute [local go_sem] Oper.semAt_some

def prodL (D : Desc) (p q : List Int) : List Int := if (canI D p).length = 0 ∨ (canI D q).length = 0 then [] else lst ((canI D p).length + (canI D q).length - 1) fun t => ci (conv (cfR D p) (cfR D q) t)
theorem cfR_canI_out (D : Desc) {p : List Int} {t : Nat} (h : (canI D p).length ≤ t) : cfR D p t = 0 := by rw [← cfR_canI]; exact cfR_out D h
theorem cfR_prodL (D : Desc) (p q : List Int) : cfR D (prodL D p q) = conv (cfR D p) (cfR D q) := funext fun t => by
 have hP := fun t h => cfR_canI_out D (p := p) (t := t) h
 have hQ := fun t h => cfR_canI_out D (p := q) (t := t) h
 unfold prodL;by_cases h : (canI D p).length = 0 ∨ (canI D q).length = 0
 ·rw [if_pos h,cfR_out D (by simp)];refine (rsum_eq_zero fun s _ => ?_).symm;rcases h with h | h
  ·rw [hP s (by omega),zero_mul]
  ·rw [hQ (t - s) (by omega),mul_zero]
 ·rw [if_neg h];by_cases ht : t < (canI D p).length + (canI D q).length - 1
  ·show eli D ((lst _ _)[t]?.getD 0) = _
   rw [lst_get _ ht,eli_ci]
  ·rw [cfR_out D (by rw [lst_length]; omega),conv_high hP hQ (by omega)]

set_option maxRecDepth 100000 in
set_option maxHeartbeats 4000000 in
theorem gProd_any (F : FD) (p q : List Int) (A1 A2 : Option Addr) (c1 c2 g : Nat) (w : World) (hg : GF w w.heap.size g F) (hr1 : Rd w w.heap.size A1 p) (hr2 : Rd w w.heap.size A2 q) (hl1 : p.length ≤ 20000) (hl2 : q.length ≤ 20000) :
  Calls Tryz.prog 176 #[.pointer (some ⟨g,0,none⟩),.slice A1 p.length c1,.slice A2 q.length c2] w (GivesR (prodL F.toDesc p q) w) := by
 have hC1 := fun W a b => gCanonP_any F p A1 c1 g W a b (by omega)
 have hC2 := fun W a b => gCanonP_any F q A2 c2 g W a b (by omega)
 have hle1 := canI_le F.toDesc p;have hle2 := canI_le F.toDesc q;obtain ⟨P,hP⟩ : ∃ P,P = cfR F.toDesc p := ⟨_,rfl⟩;obtain ⟨Q,hQ⟩ : ∃ Q,Q = cfR F.toDesc q := ⟨_,rfl⟩;have hpP : ∀ i,eli F.toDesc ((canI F.toDesc p)[i]?.getD 0) = P i := fun i => by rw [hP,← cfR_canI]; rfl
 have hqQ : ∀ i,eli F.toDesc ((canI F.toDesc q)[i]?.getD 0) = Q i := fun i => by rw [hQ,← cfR_canI]; rfl
 have hP0 : ∀ t,(canI F.toDesc p).length ≤ t → P t = 0 := fun t h => by rw [← hpP,List.getElem?_eq_none h]; exact eli_zero
 have hQ0 : ∀ t,(canI F.toDesc q).length ≤ t → Q t = 0 := fun t h => by rw [← hqQ,List.getElem?_eq_none h]; exact eli_zero
 have hres : prodL F.toDesc p q = if (canI F.toDesc p).length = 0 ∨ (canI F.toDesc q).length = 0 then [] else lst ((canI F.toDesc p).length + (canI F.toDesc q).length - 1) fun t => ci (convP P Q (canI F.toDesc p).length 0 t) := by
  unfold prodL;rw [← hP,← hQ];by_cases h : (canI F.toDesc p).length = 0 ∨ (canI F.toDesc q).length = 0
  ·rw [if_pos h,if_pos h]
  ·rw [if_neg h,if_neg h];exact lst_congr fun t _ => by rw [convP_full _ _ hP0]
 obtain ⟨p',hp'⟩ : ∃ p',p' = canI F.toDesc p := ⟨_,rfl⟩;obtain ⟨q',hq'⟩ : ∃ q',q' = canI F.toDesc q := ⟨_,rfl⟩;rw [← hp'] at hle1 hC1 hpP hP0 hres;rw [← hq'] at hle2 hC2 hqQ hQ0 hres;obtain ⟨N1,hN1⟩ : ∃ N1,N1 = p'.length := ⟨_,rfl⟩;obtain ⟨N2,hN2⟩ : ∃ N2,N2 = q'.length := ⟨_,rfl⟩;unfold GivesR at hC1 hC2;rw [← hN1] at hC1 hP0 hres hle1;rw [← hN2] at hC2 hQ0 hres hle2;replace hC1 := fun W a b => Lib.hid (hC1 W a b)
 replace hC2 := fun W a b => Lib.hid (hC2 W a b)
 have hN1s : N1 ≤ 20000 := by omega
 have hN2s : N2 ≤ 20000 := by omega
 replace hP := Lib.hid hP;replace hQ := Lib.hid hQ;replace hpP := Lib.hid hpP;replace hqQ := Lib.hid hqQ;replace hP0 := Lib.hid hP0;replace hQ0 := Lib.hid hQ0;replace hp' := Lib.hid hp';replace hq' := Lib.hid hq';replace hN1 := Lib.hid hN1;replace hN2 := Lib.hid hN2;replace hres := Lib.hid hres;clear hle1 hle2;go_enter Tryz.func176,Tryz.ntmps176;go_wp2_with (fail);(with_reducible refine (hC1 w hg hr1).out.mono ?_);rintro e w1 ⟨A3,c3,rfl,hr3,hc3,hc3',hA3,hb1⟩;go_wp2_with (fail);(with_reducible refine (hC2 w1 ((hg.below hb1).more hb1.size) ((hr2.below hb1).more hb1.size)).out.mono ?_);rintro e w2 ⟨A4,c4,rfl,hr4,hc4,hc4',hA4,hb2⟩;have hB2 := hb1.trans (hb2.mono hb1.size);have hr32 := (hr3.below hb2).more hb2.size;have hg2 := (hg.below hB2).more hB2.size;by_cases hz1 : N1 = 0
 ·have hzb : ((N1 : Int) == 0) = true := by rw [beq_iff_eq]; omega
  have hr0 : Hid (prodL F.toDesc p q = []) := hres.out.trans (if_pos (.inl hz1));clear hz1;go_wp2_with (fail);go_ret;exact ⟨none,0,by rw [hr0.out]; rfl,by rw [hr0.out]; exact Rd.nil,by rw [hr0.out]; exact Nat.le_refl _,Nat.zero_le _,(fun a e => (by cases e)),hB2⟩
 have hzb1 : ((N1 : Int) == 0) = false := by rw [beq_eq_false_iff_ne]; omega
 by_cases hz2 : N2 = 0
 ·have hzb : ((N2 : Int) == 0) = true := by rw [beq_iff_eq]; omega
  have hr0 : Hid (prodL F.toDesc p q = []) := hres.out.trans (if_pos (.inr hz2));clear hz2;go_wp2_with (fail);go_ret;exact ⟨none,0,by rw [hr0.out]; rfl,by rw [hr0.out]; exact Rd.nil,by rw [hr0.out]; exact Nat.le_refl _,Nat.zero_le _,(fun a e => (by cases e)),hB2⟩
 have hzb2 : ((N2 : Int) == 0) = false := by rw [beq_eq_false_iff_ne]; omega
 obtain ⟨L,hL⟩ : ∃ L,L = N1 + N2 - 1 := ⟨_,rfl⟩;have hr0 : Hid (prodL F.toDesc p q = lst L fun t => ci (convP P Q N1 0 t)) := by unfold Hid; rw [hres.out,if_neg (by omega),hL]
 have hw1 : IntKind.i64.wrap ((N1 : Int) + (N2 : Int)) = (N1 : Int) + (N2 : Int) := IntWalk.i64_in _ (by omega);have hw2 : IntKind.i64.wrap ((N1 : Int) + (N2 : Int) - 1) = (L : Int) := by rw [IntWalk.i64_in _ (by omega)]; omega
 have hmk := mk_ints L (by omega);obtain ⟨gb,hgb⟩ : ∃ gb,gb = w2.heap.size := ⟨_,rfl⟩;obtain ⟨Y,hY⟩ : ∃ Y,Y = w2.alloc (.cells (Array.replicate L (Value.int .i64 0)) 3) := ⟨_,rfl⟩;have hib : IB Y gb (lst L fun t => ci (convP P Q 0 0 t)) := by
  rw [hY,hgb,lst_congr (g := fun _ => 0) (fun i _ => by rw [convP_zero,ci_zero]),← lst_zero]; exact IB.newz w2 _
 have hbY : Below w2.heap.size w2 Y := by rw [hY]; exact (Below.refl _ _).alloc (Nat.le_refl _) _
 have hgw2 : w2.heap.size ≤ gb := Nat.le_of_eq hgb.symm;have hgw3 : gb ≤ w2.heap.size := Nat.le_of_eq hgb;have hgw : w.heap.size ≤ gb := by have := hB2.size; omega
 have hLle : ∀ i j,i < N1 → j < N2 → i + j < L := fun i j h1 h2 => by omega
 replace hLle := Lib.hid hLle;replace hL := Lib.hid hL;replace hY := Lib.hid hY;replace hgb := Lib.hid hgb;replace hib := Lib.hid hib;clear hz1 hz2 hC1 hC2;go_wp2_with (fail);rw [← hY.out];simp only [← hgb.out];go_loopw [35] (fun i wr => ∃ k : Nat,k ≤ N1 ∧ i = .int .i64 k ∧ Hid (IB wr gb (lst L fun t => ci (convP P Q k 0 t))) ∧ Below w2.heap.size w2 wr) (fun i _ => N1 - (intOf i).toNat)
 case atStart => exact ⟨0,by omega,rfl,hib,hbY⟩
 case round =>
  clear hib hbY hY;obtain ⟨wo,rfl⟩ : ∃ wo : World,wo = wr := ⟨_,rfl⟩;obtain ⟨i,hi,rfl,hib,hbw⟩ := hrel;by_cases hlt : i < N1
  ·have hi0 : (0 : Int) ≤ (i : Int) := by omega
   have hi1 : (i : Int) < (N1 : Int) := by omega
   obtain ⟨b3,o3,rfl,hb3,hc3x⟩ := hr32.at_ (by rw [← hN1.out]; exact hlt : i < p'.length);have hx1 := (hbw.cell (p := ⟨b3,o3 + i,none⟩) hb3).trans hc3x;obtain ⟨y1,hy1⟩ : ∃ y1,y1 = p'[i]?.getD 0 := ⟨_,rfl⟩;rw [← hy1] at hx1;replace hy1 := Lib.hid hy1;clear hc3x;go_wp2_with (fail);clear hx1;go_loopw [42] (fun j' wr => ∃ j : Nat,j ≤ N2 ∧ j' = .int .i64 j ∧ Hid (IB wr gb (lst L fun t => ci (convP P Q i j t))) ∧ Below w2.heap.size w2 wr) (fun j' _ => N2 - (intOf j').toNat)
   case atStart => exact ⟨0,by omega,rfl,hib,hbw⟩
   case round =>
    clear hib hbw;obtain ⟨wi,rfl⟩ : ∃ wi : World,wi = wr := ⟨_,rfl⟩;obtain ⟨j,hj,rfl,hib,hbw⟩ := hrel;by_cases hjl : j < N2
    ·have hj0 : (0 : Int) ≤ (j : Int) := by omega
     have hj1 : (j : Int) < (N2 : Int) := by omega
     have hij := hLle.out i j hlt hjl;obtain ⟨b4,o4,rfl,hb4,hc4x⟩ := hr4.at_ (by rw [← hN2.out]; exact hjl : j < q'.length);have hx2 := (hbw.cell (p := ⟨b4,o4 + j,none⟩) hb4).trans hc4x;have hx3 := hib.out.cell (i := i + j) (by rw [lst_length]; exact hij);rw [lst_get _ hij] at hx3;obtain ⟨y2,hy2⟩ : ∃ y2,y2 = q'[j]?.getD 0 := ⟨_,rfl⟩;obtain ⟨y3,hy3⟩ : ∃ y3,y3 = ci (convP P Q i j (i + j)) := ⟨_,rfl⟩;obtain ⟨y4,hy4⟩ : ∃ y4,y4 = ci (convP P Q i (j + 1) (i + j)) := ⟨_,rfl⟩;rw [← hy2] at hx2;rw [← hy3] at hx3;have hgi := (hg2.below hbw).more hbw.size;have hM := Lib.hid (gMul_any F y1 y2 g wi.drew hgi.drew);have hAd := fun W h => gAdd_any F y3 (ci (eli F.toDesc y1 * eli F.toDesc y2)) g W h
     have hs4 : ci (eli F.toDesc y3 + eli F.toDesc (ci (eli F.toDesc y1 * eli F.toDesc y2))) = y4 := by
      rw [hy4,convP_step,hy3,eli_ci,eli_ci,hy1.out,hy2,hpP.out,hqQ.out]
     rw [hs4] at hAd;replace hAd := fun W h => Lib.hid (hAd W h)
     obtain ⟨z,hz⟩ : ∃ z,z = ci (eli F.toDesc y1 * eli F.toDesc y2) := ⟨_,rfl⟩;rw [← hz] at hM hAd;have hset : Hid ((lst L fun t => ci (convP P Q i j t)).set (i + j) y4 = lst L fun t => ci (convP P Q i (j + 1) t)) := by
      unfold Hid;rw [lst_set];exact lst_congr fun t _ => by
       by_cases e : t = i + j
       ·rw [if_pos e,hy4,e]
       ·rw [if_neg e,convP_other _ _ e]
     have hwi : IntKind.i64.wrap ((i : Int) + (j : Int)) = (i : Int) + (j : Int) := IntWalk.i64_in _ (by omega);have hadd : (i : Int) + (j : Int) = ((i + j : Nat) : Int) := by omega
     have hij0 : (0 : Int) ≤ (i : Int) + (j : Int) := by omega
     have hij1 : (i : Int) + (j : Int) < (L : Int) := by omega
     have htn : ((i : Int) + (j : Int)).toNat = i + j := by omega
     have hgl := hib.out.lt;replace hy2 := Lib.hid hy2;replace hy3 := Lib.hid hy3;replace hy4 := Lib.hid hy4;replace hz := Lib.hid hz;replace hadd := Lib.hid hadd;clear hc4x hs4;go_wp2_with (fail);refine wp_region_held_drew (S := fun w' => True) (by kernel_rfl) (by (try dsimp only); all_goals trivial) (fun hHeld => ?_);refine tk 0 ?_; try simp only [pS]
     refine tk 1 ?_; try simp only [pS]
     refine tk 2 ?_; try simp only [pS]
     refine tk 3 ?_; try simp only [pS]
     refine tk 4 ?_; try simp only [pS]
     refine tk 5 ?_; try simp only [pS]
     refine tk 6 ?_; try simp only [pS]
     refine tk 7 ?_; try simp only [pS]
     refine tk 8 ?_; try simp only [pS]
     refine tk 9 ?_; try simp only [pS]
     refine tk 11 ?_; try simp only [pS]
     refine tk 12 ?_; try simp only [pS]
     refine tk 13 ?_; try simp only [pS]
     refine wpAnyH_ready (rs := [10,14]) (by kernel_rfl) (by simp) ?_;refine AllReadyH.cons (o := ⟨_,_,_,_,_,_⟩) rfl (fun K hK => ?_) ?_
     ·go_simp;refine hK.out _ _ (by (try dsimp only); all_goals trivial) (fun hHeld => ?_);clear hK K;try simp only [pS]
      refine rd 14 fun K hK => ?_
      go_simp;go_at_call 140;(with_reducible refine (hM).out.mono ?_);rintro e w6 ⟨rfl,hb6⟩;have hx6 := (hb6.cell (p := ⟨gb,i + j,none⟩) hgl).trans hx3;have hs6 : wi.heap.size ≤ w6.heap.size := hb6.size;have hA6 := hAd w6 ((hgi.drew.below hb6).more hb6.size);go_wp2_with (fail);refine hK.out _ _ (by (try dsimp only); all_goals trivial) (fun hHeld => ?_);clear hK K;try simp only [pS]
      refine rd 15 fun K hK => ?_
      go_simp;go_at_call 141;(with_reducible refine (hA6).out.mono ?_);rintro e w7 ⟨rfl,hb7⟩;have hb57 : Below wi.heap.size wi w7 := ((Below.refl _ wi).drew.trans hb6).trans (hb7.mono hs6);have hib7 := hib.out.below hb57 hgl;have hx7 := hib7.cell (i := i + j) (by rw [lst_length]; exact hij);have hf7 := hib7.frozen (i + j);go_wp2_with (fail);refine hK.out _ _ (by (try dsimp only); all_goals trivial) (fun hHeld => ?_);clear hK K;try simp only [pS]
      refine tk 16 ?_; try simp only [pS]
      refine rd 17 fun K hK => ?_
      go_simp;refine hK.out _ _ (by (try dsimp only); all_goals trivial) (fun hHeld => ?_);clear hK K;try simp only [pS]
      refine wpAnyH_done (by kernel_rfl) ?_ _;have hs7 := hib7.set_ (i + j) y4;rw [hset.out] at hs7;replace hs7 := Lib.hid hs7;have hbs : Below w2.heap.size w2 (w7.setCell ⟨gb,i + j,none⟩ (.int .i64 y4)) := (hbw.trans (hb57.mono hbw.size)).setCell (p := ⟨gb,i + j,none⟩) hgw2 _;clear hx6 hx7 hf7 hx3;go_wp2_with (fail);go_roundw
      case rel => exact ⟨j + 1,by omega,by go_num,hs7,hbs⟩
      case measure => simp [intOf]; omega
     refine AllReadyH.cons (o := ⟨_,_,_,_,_,_⟩) rfl (fun K hK => ?_) AllReadyH.nil;go_simp;go_at_call 140;(with_reducible refine (hM).out.mono ?_);rintro e w6 ⟨rfl,hb6⟩;have hx6 := (hb6.cell (p := ⟨gb,i + j,none⟩) hgl).trans hx3;have hs6 : wi.heap.size ≤ w6.heap.size := hb6.size;have hA6 := hAd w6 ((hgi.drew.below hb6).more hb6.size);go_wp2_with (fail);refine hK.out _ _ (by (try dsimp only); all_goals trivial) (fun hHeld => ?_);clear hK K;try simp only [pS]
     refine rd 10 fun K hK => ?_
     go_simp;refine hK.out _ _ (by (try dsimp only); all_goals trivial) (fun hHeld => ?_);clear hK K;try simp only [pS]
     refine rd 15 fun K hK => ?_
     go_simp;go_at_call 141;(with_reducible refine (hA6).out.mono ?_);rintro e w7 ⟨rfl,hb7⟩;have hb57 : Below wi.heap.size wi w7 := ((Below.refl _ wi).drew.trans hb6).trans (hb7.mono hs6);have hib7 := hib.out.below hb57 hgl;have hx7 := hib7.cell (i := i + j) (by rw [lst_length]; exact hij);have hf7 := hib7.frozen (i + j);go_wp2_with (fail);refine hK.out _ _ (by (try dsimp only); all_goals trivial) (fun hHeld => ?_);clear hK K;try simp only [pS]
     refine tk 16 ?_; try simp only [pS]
     refine rd 17 fun K hK => ?_
     go_simp;refine hK.out _ _ (by (try dsimp only); all_goals trivial) (fun hHeld => ?_);clear hK K;try simp only [pS]
     refine wpAnyH_done (by kernel_rfl) ?_ _;have hs7 := hib7.set_ (i + j) y4;rw [hset.out] at hs7;replace hs7 := Lib.hid hs7;have hbs : Below w2.heap.size w2 (w7.setCell ⟨gb,i + j,none⟩ (.int .i64 y4)) := (hbw.trans (hb57.mono hbw.size)).setCell (p := ⟨gb,i + j,none⟩) hgw2 _;clear hx6 hx7 hf7 hx3;go_wp2_with (fail);go_roundw
     case rel => exact ⟨j + 1,by omega,by go_num,hs7,hbs⟩
     case measure => simp [intOf]; omega
    ·obtain rfl : N2 = j := by omega
     have hrow : Hid ((lst L fun t => ci (convP P Q i N2 t)) = lst L fun t => ci (convP P Q (i + 1) 0 t)) := lst_congr fun t _ => by rw [convP_row _ _ hQ0.out]
     rw [hrow.out] at hib;go_wp2_with (fail);go_roundw
     case rel => exact ⟨i + 1,by omega,by go_num,hib,hbw⟩
     case measure => simp [intOf]; omega
  ·obtain rfl : N1 = i := by omega
   go_wp2_with (fail);go_ret;refine ⟨some ⟨gb,0,none⟩,L,by rw [hr0.out,lst_length]; rfl,by rw [hr0.out]; exact hib.out.rd,by rw [hr0.out,lst_length]; exact Nat.le_refl _,by have := hL.out; unfold maxLen; omega,fun a e => by cases e; exact hgw,hB2.trans (hbw.mono hB2.size)⟩
end
section
open Go.RowKit Cw

noncomputable def frK (F : FD) (l : List Int) (k : Nat) : List Int := lst (k + 1) fun t => ci (lcf (cfR F.toDesc l) l.length k t)
theorem frK_length (F : FD) (l : List Int) (k : Nat) : (frK F l k).length = k + 1 := lst_length _ _
theorem ldeg_le {i k : Nat} (h : k ≤ i) : ldeg i k = k := by unfold ldeg; rw [if_neg (by omega)]
theorem cfR_frK (F : FD) (l : List Int) {k : Nat} (hk : k ≤ l.length) : cfR F.toDesc (frK F l k) = lcf (cfR F.toDesc l) l.length k := funext fun i => by
 unfold frK;by_cases hi : i < k + 1
 ·show eli F.toDesc ((lst _ _)[i]?.getD 0) = _
  rw [lst_get _ hi,eli_ci]
 ·rw [cfR_out _ (by rw [lst_length]; omega),lcf_high _ _ _ _ (by rw [ldeg_le hk]; omega)]
theorem frK_zero (F : FD) (l : List Int) : frK F l 0 = [1] := by
 unfold frK
 show [ci (lcf (cfR F.toDesc l) l.length 0 0)] = [1]
 have e : lcf (cfR F.toDesc l) l.length 0 0 = 1 := by
  show (if (0 : Nat) = 0 then (1 : R F.toDesc) else 0) = 1
  rw [if_pos rfl]
 rw [e,ci_one]
theorem frK_succ (F : FD) (l : List Int) {k : Nat} (hk : k < l.length) : mulI F.toDesc (frK F l k) [ci (-cfR F.toDesc l k),1] = frK F l (k + 1) := by
 have e : conv (cfR F.toDesc (frK F l k)) (cfR F.toDesc [ci (-cfR F.toDesc l k),1]) = lcf (cfR F.toDesc l) l.length (k + 1) := funext fun t => by
  rw [cfR_frK F l (by omega),lcf_other _ (by omega : k ≠ l.length)];exact conv_xm _ _ _ (eli_ci _) eli_one (fun s hs => cfR_out _ (by simpa using hs)) t
 unfold mulI;rw [e,frK_length];have h1 : lcf (cfR F.toDesc l) l.length (k + 1) (k + 1) = 1 := by
  have := lcf_top (cfR F.toDesc l) l.length (k + 1)
  rwa [ldeg_le (by omega)] at this
 rw [canL_more (n := k + 1 + 1) (by simp) (fun i h2 h3 => by rw [lcf_high _ _ _ _ (by rw [ldeg_le (by omega)]; omega),ci_zero]),
  canL_full (n := k + 1) (by rw [h1,ci_one]; decide)]
 rfl

end
section
open Go.RowKit Cw
attribute [local go_sem] Oper.semAt_some

theorem canI_len (D : Desc) {p : List Int} {n : Nat} (hl : p.length = n + 1) (h : cfR D p n ≠ 0) : (canI D p).length = n + 1 := by
 unfold canI;rw [canL_length,hl,cdeg_no (f := cfI D p) (n := n) (fun e => h (ci_eq_zero.1 e))]
theorem prodL_frK (F : FD) (l : List Int) {k : Nat} (hk : k < l.length) : prodL F.toDesc (frK F l k) [ci (-cfR F.toDesc l k),1] = frK F l (k + 1) := by
 have e1 : (canI F.toDesc (frK F l k)).length = k + 1 := canI_len _ (frK_length F l k) (by
  rw [cfR_frK F l (by omega)];have := lcf_top (cfR F.toDesc l) l.length k;rw [ldeg_le (by omega)] at this;rw [this]; exact one_ne)
 have e2 : (canI F.toDesc [ci (-cfR F.toDesc l k),1]).length = 1 + 1 := canI_len _ rfl (by
  show eli F.toDesc 1 ≠ 0
  rw [eli_one]; exact one_ne)
 have e3 : conv (cfR F.toDesc (frK F l k)) (cfR F.toDesc [ci (-cfR F.toDesc l k),1]) = lcf (cfR F.toDesc l) l.length (k + 1) := by
  rw [← cfR_mulI,frK_succ F l hk,cfR_frK F l (by omega)]
 unfold prodL;rw [if_neg (by rw [e1,e2]; omega),e1,e2,e3];rfl

set_option maxRecDepth 100000 in
set_option maxHeartbeats 2000000 in
theorem gFromRoots_any (F : FD) (l : List Int) (A1 : Option Addr) (c1 g : Nat) (w : World) (hg : GF w w.heap.size g F) (hr1 : Rd w w.heap.size A1 l) (hl : l.length ≤ 1000) :
  Calls Tryz.prog 252 #[.pointer (some ⟨g,0,none⟩),.slice A1 l.length c1] w fun e w' => ∃ A' c',e = .returned (.slice A' (frK F l l.length).length c') ∧ Rd w' w'.heap.size A' (frK F l l.length) ∧ Below w.heap.size w w' := by
 have hN := fun x W h => Lib.hid (gNeg_any F x g W h)
 have hM := fun k B1 B2 d1 d2 W a b e f h => (gProd_any F (frK F l k) [ci (-cfR F.toDesc l k),1] B1 B2 d1 d2 g W a b e f h)
 obtain ⟨Y,hY⟩ : ∃ Y,Y = w.alloc (.cells #[.int .i64 1] 3) := ⟨_,rfl⟩;have hB : Below w.heap.size w Y := by rw [hY]; exact (Below.refl _ _).alloc (Nat.le_refl _) _
 have hrd : Rd Y Y.heap.size (some ⟨w.heap.size,0,none⟩) (frK F l 0) := by
  rw [frK_zero,hY];exact (IB.new w [1]).rd
 replace hY := Lib.hid hY;go_enter Tryz.func252,Tryz.ntmps252;go_wp2_with (fail);rw [← hY.out];go_loopw [11,5] (fun i v wr => ∃ k : Nat,k ≤ l.length ∧ i = .int .i64 k ∧ (∃ A' c',v = .slice A' (frK F l k).length c' ∧ Rd wr wr.heap.size A' (frK F l k)) ∧ Below w.heap.size w wr) (fun i _ _ => l.length - (intOf i).toNat)
 case atStart => exact ⟨0,by omega,rfl,⟨_,_,by rw [frK_length],hrd⟩,hB⟩
 case round =>
  clear hrd hB hY;obtain ⟨w2,rfl⟩ : ∃ w2 : World,w2 = wr := ⟨_,rfl⟩;obtain ⟨k,hk,rfl,⟨A',c',rfl,hrd⟩,hbw⟩ := hrel;by_cases hlt : k < l.length
  ·have hk0 : (0 : Int) ≤ (k : Int) := by omega
   have hk1 : (k : Int) < (l.length : Int) := by omega
   obtain ⟨b,o,rfl,hb,hc⟩ := hr1.at_ hlt;have hd := (hbw.cell (p := ⟨b,o + k,none⟩) hb).trans hc;have hM2 := hM k;rw [prodL_frK F l hlt] at hM2;have hfl := frK_length F l k;have hg2 := (hg.below hbw).more hbw.size;have hN2 := (hN (l[k]?.getD 0) w2 hg2).out;rw [show eli F.toDesc (l[k]?.getD 0) = cfR F.toDesc l k from rfl] at hN2;replace hN2 := Lib.hid hN2;obtain ⟨y,hy⟩ : ∃ y,y = l[k]?.getD 0 := ⟨_,rfl⟩;rw [← hy] at hd hN2;obtain ⟨v,hv⟩ : ∃ v,v = ci (-cfR F.toDesc l k) := ⟨_,rfl⟩;rw [← hv] at hN2 hM2;rw [show [v,(1 : Int)].length = 2 from rfl] at hM2;replace hfl := Lib.hid hfl;replace hM2 := fun B1 B2 d1 d2 W a b e f h => Lib.hid (hM2 B1 B2 d1 d2 W a b e f h)
   replace hy := Lib.hid hy;replace hv := Lib.hid hv;clear hc;go_wp2_with (fail);(with_reducible refine hN2.out.mono ?_);rintro e w4 ⟨rfl,hb4⟩;have ha4 : Below w4.heap.size w4 (w4.alloc (.cells #[.int .i64 v,.int .i64 1] 3)) := (Below.refl _ _).alloc (Nat.le_refl _) _;obtain ⟨w5,hw5⟩ : ∃ w5,w5 = w4.alloc (.cells #[.int .i64 v,.int .i64 1] 3) := ⟨_,rfl⟩;rw [← hw5] at ha4;have hq5 : Rd w5 w5.heap.size (some ⟨w4.heap.size,0,none⟩) [v,1] := by rw [hw5]; exact (IB.new w4 [v,1]).rd
   have hb45 := hb4.trans (ha4.mono hb4.size);have hB5 := hbw.trans (hb45.mono hbw.size);have hM5 := hM2 A' (some ⟨w4.heap.size,0,none⟩) c' 2 w5 ((hg.below hB5).more hB5.size) ((hrd.below hb45).more hb45.size) hq5 (by rw [hfl.out]; omega) (by show 2 ≤ 20000; decide);replace hw5 := Lib.hid hw5;go_wp2_with (fail);rw [← hw5.out];(with_reducible refine hM5.out.mono ?_);rintro e w6 ⟨A6,c6,rfl,hrd6,-,-,-,hb6⟩;have hB6 := hB5.trans (hb6.mono hB5.size);go_wp2_with (fail);go_roundw
   case rel => exact ⟨k + 1,by omega,by go_num,⟨_,_,rfl,hrd6⟩,hB6⟩
   case measure => simp [intOf]; omega
  ·obtain rfl : k = l.length := by omega
   go_wp2_with (fail);go_ret;exact ⟨A',c',rfl,hrd,hbw⟩

end
section
open Cw
open Cw.CField (inv)

section
variable {F : FD}
theorem lval_roots {f : Nat → R F.toDesc} {N : Nat} {x : R F.toDesc} : ∀ k,k ≤ N → (lval f N x k = 0 ↔ ∃ j,j < k ∧ x = f j)
 | 0,_ => ⟨fun h => absurd h (one_ne (F := R F.toDesc)),fun ⟨j,hj,_⟩ => absurd hj (by omega)⟩
 | k + 1,hk => by
  rw [lval_other _ _ (by omega : k ≠ N)];constructor
  ·intro h;rcases mul_eq_zero h with h | h
   ·obtain ⟨j,hj,e⟩ := (lval_roots k (by omega)).1 h;exact ⟨j,by omega,e⟩
   ·exact ⟨k,by omega,sub_eq_zero h⟩
  ·rintro ⟨j,hj,e⟩;by_cases h : j = k
   ·rw [e,h,sub_self,mul_zero]
   ·rw [(lval_roots k (by omega)).2 ⟨j,by omega,e⟩,zero_mul]
theorem pev_frK (l : List Int) (x : R F.toDesc) : pev ((frK F l l.length).map (eli F.toDesc)) x = lval (cfR F.toDesc l) l.length x l.length := by
 unfold frK lst;rw [List.map_map,pev_map];have e : ∀ i,i < l.length + 1 → (eli F.toDesc ∘ fun t => ci (lcf (cfR F.toDesc l) l.length l.length t)) i * pw x i = lcf (cfR F.toDesc l) l.length l.length i * pw x i := fun i _ => by
  show eli F.toDesc (ci _) * _ = _
  rw [eli_ci]
 rw [rsum_congr e];exact lcf_sum _ _ _ _ _ (by rw [ldeg_le (Nat.le_refl _)]; omega)
end
end
end Go.Proofs.YtjdoneanohhkmaaGreat
