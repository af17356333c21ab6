/- The reference's polynomials: Canon. Layer 5 of the program: trim, Canon, combine. The reference's polynomials: Mul. -/
import Derived.IntWalk
import Derived.Test.YtjdoneanohhkmaaGreatZpP1
import Derived.Test.YtjdoneanohhkmaaGreatZpGopRow
import Derived.Test.YtjdoneanohhkmaaGreatZpTk
namespace Go.Proofs.YtjdoneanohhkmaaGreat
section
open Go.RowKit Cw

def cfR (D : Desc) (p : List Int) : Nat → R D := fun i => eli D (p[i]?.getD 0)
def cfI (D : Desc) (p : List Int) : Nat → Int := fun i => ci (cfR D p i)
theorem cfR_out (D : Desc) {p : List Int} {i : Nat} (h : p.length ≤ i) : cfR D p i = 0 := by
 unfold cfR; rw [List.getElem?_eq_none h]; exact eli_zero
theorem cfR_can {D : Desc} (f : Nat → R D) (n : Nat) (h : ∀ i,n ≤ i → f i = 0) : cfR D (canL (fun i => ci (f i)) n) = f := funext fun i => by
 unfold cfR;by_cases hi : i < n
 ·rw [canL_get _ hi,eli_ci]
 ·rw [canL_out _ (by omega),h i (by omega)]; exact eli_zero
def canI (D : Desc) (p : List Int) : List Int := canL (cfI D p) p.length
theorem canI_le (D : Desc) (p : List Int) : (canI D p).length ≤ p.length := by unfold canI; rw [canL_length]; exact cdeg_le _ _
theorem cfR_canI (D : Desc) (p : List Int) : cfR D (canI D p) = cfR D p := cfR_can (cfR D p) p.length fun _ h => cfR_out D h
set_option maxRecDepth 100000 in
set_option maxHeartbeats 2000000 in
theorem Canon5_any (D : Desc) (p : List Int) (A A1 : Option Addr) (c c1 : Nat) (w : World) (hr1 : Rd w w.heap.size A1 p) (hl : p.length ≤ 70000) :
    Calls Tryz.prog 104 #[.agg #[.int .i64 D.p,.int .i64 D.m,.slice A D.mod.length c],.slice A1 p.length c1] w (Gives w.heap.size (canI D p) w) := by
  have hI := fun x W => Lib.hid (In_any D x A D.mod.length c W)
  have hbx0 := Bx.new w D A D.mod.length c 24;have hB0 : Below w.heap.size w (w.alloc (.cells #[.int .i64 D.p,.int .i64 D.m,.slice A D.mod.length c] 24)) := (Below.refl _ _).alloc (Nat.le_refl _) _;obtain ⟨f,hf⟩ : ∃ f,f = cfI D p := ⟨_,rfl⟩;have hfk : ∀ k,ci (eli D (p[k]?.getD 0)) = f k := fun k => by rw [hf]; rfl
  unfold canI;rw [← hf];replace hf := Lib.hid hf;replace hfk := Lib.hid hfk;go_enter Tryz.func104,Tryz.ntmps104;go_wp2_with (fail);go_loopw [6,5] (fun i n wr => ∃ k : Nat,k ≤ p.length ∧ i = .int .i64 k ∧ n = .int .i64 (cdeg f k) ∧ Bx wr w.heap.size D A D.mod.length c ∧ Below w.heap.size w wr ∧ w.heap.size < wr.heap.size) (fun i _ _ => p.length - (intOf i).toNat)
  case atStart => exact ⟨0,by omega,rfl,rfl,hbx0,hB0,by simp⟩
  case round =>
    clear hbx0 hB0;obtain ⟨w2,rfl⟩ : ∃ w2 : World,w2 = wr := ⟨_,rfl⟩;obtain ⟨k,hk,rfl,rfl,hbx,hbw,hsz⟩ := hrel;by_cases hlt : k < p.length
    · have hk0 : (0 : Int) ≤ (k : Int) := by omega
      have hk1 : (k : Int) < (p.length : Int) := by omega
      obtain ⟨b,o,rfl,hb,hc⟩ := hr1.at_ hlt;have hd := (hbw.cell (p := ⟨b,o + k,none⟩) hb).trans hc;have hI2 := fun W => (hI (p[k]?.getD 0) W).out
      rw [hfk.out] at hI2;replace hI2 := fun W => Lib.hid (hI2 W)
      generalize p[k]?.getD 0 = y at *;have hcc := Lib.hid (show _ ∧ _ ∧ _ ∧ _ from ⟨hbx.cells.1,hbx.cells.2.1,hbx.cells.2.2,hd⟩);have hb' := Nat.lt_of_lt_of_le hb hbw.size;by_cases hz : f k = 0
      all_goals
       first
       | (have hs := Lib.hid (cdeg_yes hz); have hzb : (f k != 0) = false := by rw [bne_eq_false_iff_eq]; exact hz)
       | (have hs := Lib.hid (cdeg_no hz); have hzb : (f k != 0) = true := by rw [bne_iff_ne]; exact hz)
       clear hc hd hbx hz;go_wp2_with (fail);go_region_held3 (fun w' => w'.cell? ⟨w.heap.size,0,none⟩ = some (.int .i64 D.p) ∧ w'.cell? ⟨w.heap.size,1,none⟩ = some (.int .i64 D.m) ∧ w'.cell? ⟨w.heap.size,2,none⟩ = some (.slice A D.mod.length c) ∧ w'.cell? ⟨b,o + k,none⟩ = some (.int .i64 y)) (first | exact hcc.out | exact hcc1.out)
         (first
           | (go_at_call 80; (with_reducible refine (hI2 _).out.mono ?_); rintro e w3 ⟨rfl,hb3⟩; have hcc1 := Lib.hid (keep4 hb3 hsz hb' hcc.out)))
       go_wp2_with (fail);go_roundw
       case rel => exact ⟨k + 1,by omega,by go_num,by first | (rw [hs.out]; done) | (rw [hs.out]; go_num),⟨hcc1.out.1,hcc1.out.2.1,hcc1.out.2.2.1⟩,hbw.drew.trans (hb3.mono hbw.size),Nat.lt_of_lt_of_le hsz hb3.size⟩
       case measure => simp [intOf]; omega
    · obtain rfl : k = p.length := by omega
      have hdl := cdeg_le f p.length;obtain ⟨N,hN⟩ : ∃ N,N = cdeg f p.length := ⟨_,rfl⟩;rw [← hN] at hdl ⊢;have hmk := mk_ints N (by omega);have hI0 := IB.newz w2 N;obtain ⟨g,hg⟩ : ∃ g,g = w2.heap.size := ⟨_,rfl⟩;obtain ⟨Y,hY⟩ : ∃ Y,Y = w2.alloc (.cells (Array.replicate N (Value.int .i64 0)) 3) := ⟨_,rfl⟩;have hib : IB Y g (upd N 0 f) := by rw [upd_zero,hY,hg]; exact hI0
      have hbY : Below w2.heap.size w2 Y := by rw [hY]; exact (Below.refl _ _).alloc (Nat.le_refl _) _
      have hYs : g < Y.heap.size := by rw [hY,hg]; simp
      have hbx1 := hbx.below hbY hsz;have hBY := hbw.trans (hbY.mono hbw.size);have hgw : w.heap.size < g := by omega
      have hgl : w.heap.size ≤ g := Nat.le_of_lt hgw;replace hN := Lib.hid hN;replace hY := Lib.hid hY;replace hg := Lib.hid hg;clear hI0 hbx hbw hbY;go_wp2_with (fail);rw [← hY.out];rw [← hg.out];clear hsz hY hg;go_loopw [8] (fun i wr => ∃ k : Nat,k ≤ N ∧ i = .int .i64 k ∧ IB wr g (upd N k f) ∧ Bx wr w.heap.size D A D.mod.length c ∧ Below w.heap.size w wr) (fun i _ => N - (intOf i).toNat)
      case atStart => exact ⟨0,by omega,rfl,hib,hbx1,hBY⟩
      case round =>
        clear hib hbx1 hBY hYs;obtain ⟨w3,rfl⟩ : ∃ w3 : World,w3 = wr := ⟨_,rfl⟩;obtain ⟨k,hk,rfl,hib,hbx,hbw⟩ := hrel;have hg3 := hib.lt;by_cases hlt : k < N
        · have hk0 : (0 : Int) ≤ (k : Int) := by omega
          have hk1 : (k : Int) < (p.length : Int) := by omega
          have hk2 : (k : Int) < (N : Int) := by omega
          obtain ⟨b,o,rfl,hb,hc⟩ := hr1.at_ (by omega : k < p.length);have hd := (hbw.cell (p := ⟨b,o + k,none⟩) hb).trans hc;have hI2 := fun W => (hI (p[k]?.getD 0) W).out
          rw [hfk.out] at hI2;obtain ⟨v,hv⟩ : ∃ v,v = f k := ⟨_,rfl⟩;rw [← hv] at hI2;have hI3 := Lib.hid (hI2 w3.drew);generalize p[k]?.getD 0 = y at *;have hsz3 : w.heap.size < w3.heap.size := by omega
          have hcc := Lib.hid (show _ ∧ _ ∧ _ ∧ _ from ⟨hbx.cells.1,hbx.cells.2.1,hbx.cells.2.2,hd⟩);have hb' := Nat.lt_of_lt_of_le hb hbw.size;have hbg : b ≠ g := by omega
          have hkk : Hid (k < (upd N k f).length) := by unfold Hid; rw [upd_length]; exact hlt
          replace hv := Lib.hid hv;clear hc hd hbx hI2 hI;go_wp2_with (fail);refine wp_region_held_drew (S := fun w' => w'.cell? ⟨w.heap.size,0,none⟩ = some (.int .i64 D.p) ∧ w'.cell? ⟨w.heap.size,1,none⟩ = some (.int .i64 D.m) ∧ w'.cell? ⟨w.heap.size,2,none⟩ = some (.slice A D.mod.length c) ∧ w'.cell? ⟨b,o + k,none⟩ = some (.int .i64 y)) (by kernel_rfl) (by (try dsimp only); exact hcc.out) (fun hHeld => ?_);refine tk 0 ?_; try simp only [pS]
          refine tk 1 ?_; try simp only [pS]
          refine tk 2 ?_; try simp only [pS]
          refine tk 3 ?_; try simp only [pS]
          refine tk 4 ?_; try simp only [pS]
          refine tk 5 ?_; try simp only [pS]
          refine tk 6 ?_; try simp only [pS]
          refine rd 7 fun K hK => ?_
          go_simp;go_at_call 80;(with_reducible refine (hI3).out.mono ?_);rintro e w4 ⟨rfl,hb4⟩;go_wp2_with (fail);refine hK.out _ _ (by (try dsimp only); exact keep4 hb4 hsz3 hb' hcc.out) (fun hHeld => ?_);clear hK K;try simp only [pS]
          have hib4 := hib.drew.below hb4 hg3;have hcW := hib4.cell hkk.out;have hfW := hib4.frozen k;refine tk 8 ?_; try simp only [pS]
          refine rd 9 fun K hK => ?_
          go_simp;refine hK.out _ _ (by (try dsimp only); exact keep4 (B := g) ((Below.refl _ _).setCell (p := ⟨g,k,none⟩) (Nat.le_refl _) _) (by omega) (by omega) (keep4 hb4 hsz3 hb' hcc.out)) (fun hHeld => ?_);clear hK K;try simp only [pS]
          refine wpAnyH_done (by kernel_rfl) ?_ _;have hB4 := hbw.drew.trans (hb4.mono hbw.size);have hs4 : w3.heap.size ≤ w4.heap.size := hb4.size;have hset := hib4.set_ k v;rw [hv.out,upd_set,← hv.out] at hset;have kk4 := keep4 (B := g) ((Below.refl _ _).setCell (p := ⟨g,k,none⟩) (Nat.le_refl _) (.int .i64 v)) (by omega) (by omega) (keep4 hb4 hsz3 hb' hcc.out);replace hset := Lib.hid hset;replace kk4 := Lib.hid kk4;clear hcW hfW;go_wp2_with (fail);go_roundw
          case rel => exact ⟨k + 1,by omega,by go_num,hset,⟨kk4.out.1,kk4.out.2.1,kk4.out.2.2.1⟩,hB4.setCell (p := ⟨g,k,none⟩) hgl _⟩
          case measure => simp [intOf]; omega
        · obtain rfl : k = N := by omega
          rw [upd_full] at hib;go_wp2_with (fail);go_ret;exact ⟨g,by rw [canL_length,← hN.out]; rfl,hgl,by unfold canL; rw [← hN.out]; exact hib,hbw⟩
end
section
open Go.RowKit Cw
attribute [local go_sem] Oper.semAt_some

theorem wrap_pred {k k' : Nat} (h : k = k' + 1) (hk : k ≤ 1000000) : IntKind.i64.wrap ((k : Int) - 1) = (k' : Int) := by
 rw [IntWalk.i64_in _ (by omega)]; omega
def GivesR (l : List Int) (w : World) (e : Ending) (w' : World) : Prop :=
 ∃ A c,e = .returned (.slice A l.length c) ∧ Rd w' w'.heap.size A l ∧ l.length ≤ c ∧ c ≤ maxLen ∧ (∀ a,A = some a → w.heap.size ≤ a.block) ∧ Below w.heap.size w w'
theorem Rd.lst_take {w : World} {B n N : Nat} {A : Option Addr} {f : Nat → Int} (h : Rd w B A (lst n f)) (hN : N ≤ n) : Rd w B A (lst N f) := fun hp => by
 rw [lst_length] at hp;obtain ⟨b,off,e,hb,hc⟩ := h (by rw [lst_length]; omega);refine ⟨b,off,e,hb,fun j hj => ?_⟩;rw [lst_length] at hj;have := hc j (by rw [lst_length]; omega);rw [lst_get _ (by omega)] at this;rw [lst_get _ hj]; exact this

set_option maxHeartbeats 1000000 in
theorem gTrim_any (n : Nat) (f : Nat → Int) (A : Option Addr) (c : Nat) (w : World) (hr : Rd w w.heap.size A (lst n f)) (hn : n ≤ 1000000) (hc : n ≤ c) (_hc' : c ≤ maxLen) :
  Calls Tryz.prog 221 #[.slice A n c] w fun e w' => e = .returned (.slice A (cdeg f n) c) ∧ w = w' := by
 go_enter Tryz.func221,Tryz.ntmps221;go_wp2_with (fail);go_loop [0] (fun v => ∃ k : Nat,k ≤ n ∧ v = .slice A k c ∧ Hid (cdeg f n = cdeg f k)) (fun v => lenV v)
 case atStart => exact ⟨n,Nat.le_refl _,rfl,rfl⟩
 case round =>
  obtain ⟨k,hk,rfl,hd⟩ := hrel;rcases Nat.eq_zero_or_pos k with h0 | hpos
  ·subst h0;go_wp2_with (fail);go_ret;exact ⟨by rw [hd.out]; rfl,rfl⟩
  ·obtain ⟨k',hk'⟩ : ∃ k',k = k' + 1 := ⟨k - 1,by omega⟩;have hwr := wrap_pred hk' (by omega);obtain ⟨b,o,rfl,-,hcell⟩ := hr.at_ (by rw [lst_length]; omega : k' < (lst n f).length);rw [lst_get _ (by omega)] at hcell;have hk0 : (0 : Int) < (k : Int) := by omega
   have hj0 : (0 : Int) ≤ (k' : Int) := by omega
   have hj1 : (k' : Int) < (k : Int) := by omega
   have hj2 : (k' : Int) ≤ (c : Int) := by omega
   obtain ⟨y,hy⟩ : ∃ y,y = f k' := ⟨_,rfl⟩;rw [← hy] at hcell;by_cases hz : y = 0
   ·have hzb : (y == 0) = true := by rw [beq_iff_eq]; exact hz
    have hd2 : Hid (cdeg f n = cdeg f k') := by unfold Hid; rw [hd.out,hk',cdeg_yes (by rw [← hy]; exact hz)]
    replace hk' := Lib.hid hk';clear hz hy hd;go_wp2_with (fail);go_round
    case rel => exact ⟨k',by have := hk'.out; omega,rfl,hd2⟩
    case measure => simp [lenV]; have := hk'.out; omega
   ·have hzb : (y == 0) = false := by rw [beq_eq_false_iff_ne]; exact hz
    have hd2 : Hid (cdeg f n = k) := by unfold Hid; rw [hd.out,hk',cdeg_no (by rw [← hy]; exact hz)]
    replace hk' := Lib.hid hk';clear hz hy hd;go_wp2_with (fail);go_ret;exact ⟨by rw [hd2.out]; rfl,rfl⟩

set_option maxHeartbeats 2000000 in
theorem gCanonP_box (F : FD) (p : List Int) (A1 : Option Addr) (c1 g : Nat) (w : World) (hg : GF w w.heap.size g F) (hr1 : Rd w w.heap.size A1 p) (hl : p.length ≤ 70000) :
  Calls Tryz.prog 218 #[.pointer (some ⟨g,0,none⟩),.slice A1 p.length c1] w fun e w' => ∃ gb,e = .returned (.slice (some ⟨gb,0,none⟩) (canI F.toDesc p).length p.length) ∧ w.heap.size ≤ gb ∧ IB w' gb (lst p.length (cfI F.toDesc p)) ∧ Below w.heap.size w w' := by
 obtain ⟨n,hn⟩ : ∃ n,n = p.length := ⟨_,rfl⟩;have hmk := mk_ints n (by omega);obtain ⟨f,hf⟩ : ∃ f,f = cfI F.toDesc p := ⟨_,rfl⟩;have hfk : ∀ k,f k = if decide (0 ≤ p[k]?.getD 0 ∧ p[k]?.getD 0 < (F.q : Int)) = true then p[k]?.getD 0 else 0 := fun k => by
  rw [hf];unfold cfI cfR;by_cases h : 0 ≤ p[k]?.getD 0 ∧ p[k]?.getD 0 < (F.q : Int)
  ·rw [if_pos (decide_eq_true h)]; exact ci_eli_in h
  ·rw [if_neg (by rw [decide_eq_false h]; decide)];unfold eli;rw [if_neg h]; exact ci_zero
 have hcan : Hid (canI F.toDesc p = lst (cdeg f n) f) := by rw [hf,hn]; rfl
 have hT := fun A c W a b d => Lib.hid (gTrim_any n f A c W a (by omega) b d)
 obtain ⟨gb,hgb⟩ : ∃ gb,gb = w.heap.size := ⟨_,rfl⟩;obtain ⟨Y,hY⟩ : ∃ Y,Y = w.alloc (.cells (Array.replicate n (Value.int .i64 0)) 3) := ⟨_,rfl⟩;have hib : IB Y gb (upd n 0 f) := by rw [upd_zero,hY,hgb]; exact IB.newz w n
 have hbY : Below w.heap.size w Y := by rw [hY]; exact (Below.refl _ _).alloc (Nat.le_refl _) _
 have hgw : w.heap.size ≤ gb := Nat.le_of_eq hgb.symm;have hgw2 : gb ≤ w.heap.size := Nat.le_of_eq hgb;have hnp := Lib.hid hn;have hn7 : n ≤ 70000 := by omega
 rw [← hn];replace hY := Lib.hid hY;replace hgb := Lib.hid hgb;replace hf := Lib.hid hf;clear hn;go_enter Tryz.func218,Tryz.ntmps218;go_wp2_with (fail);rw [← hY.out,← hgb.out];go_loopw [13] (fun i wr => ∃ k : Nat,k ≤ n ∧ i = .int .i64 k ∧ IB wr gb (upd n k f) ∧ Below w.heap.size w wr) (fun i _ => n - (intOf i).toNat)
 case atStart => exact ⟨0,by omega,rfl,hib,hbY⟩
 case round =>
  obtain ⟨k,hk,rfl,hibk,hbw⟩ := hrel;obtain ⟨w3,rfl⟩ : ∃ w3 : World,w3 = wr := ⟨_,rfl⟩;clear hib hbY;by_cases hlt : k < n
  ·have hk0 : (0 : Int) ≤ (k : Int) := by omega
   have hk1 : (k : Int) < (n : Int) := by omega
   obtain ⟨b,o,rfl,hb,hc⟩ := hr1.at_ (by rw [← hnp.out]; exact hlt : k < p.length);have hd := (hbw.cell (p := ⟨b,o + k,none⟩) hb).trans hc;obtain ⟨y,hy⟩ : ∃ y,y = p[k]?.getD 0 := ⟨_,rfl⟩;have hfy := hfk k;rw [← hy] at hd hfy;have hI := gIs_any F y g w3 ((hg.below hbw).more hbw.size);have hkk : k < (upd n k f).length := by rw [upd_length]; exact hlt
   have hcW := hibk.cell hkk;have hfW := hibk.frozen k;have hset := hibk.set_ k (f k);rw [upd_set] at hset;have hbs : Below w.heap.size w (w3.setCell ⟨gb,k,none⟩ (.int .i64 (f k))) := hbw.setCell (p := ⟨gb,k,none⟩) hgw _;have hz0 : f k = 0 → IB w3 gb (upd n (k + 1) f) := fun e => by
    have h := upd_set n k f;have h2 : (upd n k f).set k (f k) = upd n k f := by
     rw [e];apply List.ext_getElem
     ·simp
     ·intro i h3 h4;rw [List.getElem_set];by_cases e2 : k = i
      ·rw [if_pos e2];have h5 := upd_get (n := n) (k := k) (i := i) f (by simpa [upd_length] using h4);rw [if_neg (by omega),List.getElem?_eq_getElem h4,Option.getD_some] at h5;exact h5.symm
      ·rw [if_neg e2]
    rw [← h,h2]; exact hibk
   replace hy := Lib.hid hy
   cases hde : decide (0 ≤ y ∧ y < (F.q : Int)) with
   | true =>
    rw [hde] at hI hfy;rw [if_pos rfl] at hfy;rw [hfy] at hset hbs;replace hI := Lib.hid hI;replace hset := Lib.hid hset;clear hc hde hfy hz0 hkk;go_wp2_with (fail);(with_reducible refine hI.out.mono ?_);rintro e w4 ⟨rfl,rfl⟩;go_wp2_with (fail);go_roundw
    case rel => exact ⟨k + 1,by omega,by go_num,hset.out,hbs⟩
    case measure => simp [intOf]; omega
   | false =>
    rw [hde] at hI hfy;rw [if_neg (by decide)] at hfy;have hib2 := Lib.hid (hz0 hfy);replace hI := Lib.hid hI;clear hc hde hfy hz0 hkk hset hbs hcW hfW;go_wp2_with (fail);(with_reducible refine hI.out.mono ?_);rintro e w4 ⟨rfl,rfl⟩;go_wp2_with (fail);go_roundw
    case rel => exact ⟨k + 1,by omega,by go_num,hib2.out,hbw⟩
    case measure => simp [intOf]; omega
  ·obtain rfl : k = n := by omega
   rw [upd_full] at hibk;have hT3 := hT (some ⟨gb,0,none⟩) k w3 hibk.rd (Nat.le_refl _) (by unfold maxLen; omega);have hle := cdeg_le f k;go_wp2_with (fail);(with_reducible refine hT3.out.mono ?_);rintro e w4 ⟨rfl,rfl⟩;go_wp2_with (fail);go_ret;exact ⟨gb,by rw [hcan.out,lst_length]; rfl,hgw,by rw [← hf.out]; exact hibk,hbw⟩
theorem gCanonP_any (F : FD) (p : List Int) (A1 : Option Addr) (c1 g : Nat) (w : World) (hg : GF w w.heap.size g F) (hr1 : Rd w w.heap.size A1 p) (hl : p.length ≤ 70000) :
  Calls Tryz.prog 218 #[.pointer (some ⟨g,0,none⟩),.slice A1 p.length c1] w (GivesR (canI F.toDesc p) w) :=
 (gCanonP_box F p A1 c1 g w hg hr1 hl).mono fun e w' ⟨gb,he,h1,h2,h3⟩ => by
  have hle := canI_le F.toDesc p;have hc : canI F.toDesc p = lst (canI F.toDesc p).length (cfI F.toDesc p) := by unfold canI; rw [canL_length]; rfl
  refine ⟨some ⟨gb,0,none⟩,p.length,he,?_,hle,by unfold maxLen; omega,fun a e => by cases e; exact h1,h3⟩;rw [hc]; exact h2.rd.lst_take hle
end
section
open Go.RowKit Cw

def mulI (D : Desc) (p q : List Int) : List Int := canL (fun t => ci (conv (cfR D p) (cfR D q) t)) (p.length + q.length)
theorem cfR_mulI (D : Desc) (p q : List Int) : cfR D (mulI D p q) = conv (cfR D p) (cfR D q) :=
 cfR_can _ _ fun _ h => conv_high (fun _ h => cfR_out D h) (fun _ h => cfR_out D h) (by omega)
theorem canI_mulI {D : Desc} {p q : List Int} {N : Nat} {f : Nat → R D} (hN : N ≤ p.length + q.length) (hf : ∀ t,f t = conv (cfR D p) (cfR D q) t) (h0 : ∀ t,N ≤ t → f t = 0) : canI D (lst N fun t => ci (f t)) = mulI D p q := by
 unfold canI mulI;rw [lst_length,canL_congr (g := fun t => ci (conv (cfR D p) (cfR D q) t)) (fun i hi => by
  show ci (eli D ((lst N fun t => ci (f t))[i]?.getD 0)) = _
  rw [lst_get _ hi,eli_ci,hf])]
 exact (canL_more hN fun i hi _ => by rw [← hf,h0 i hi,ci_zero]).symm
theorem keep6c {B b b1 o1 b2 o2 : Nat} {W w1 : World} {v0 v1 v2 v3 v4 : Value} (hb : Below B W w1) (h2 : b < B) (h3 : b1 < B) (h5 : b2 < B) (h4 : W.cell? ⟨b,0,none⟩ = some v0 ∧ W.cell? ⟨b,1,none⟩ = some v1 ∧ W.cell? ⟨b,2,none⟩ = some v2 ∧ W.cell? ⟨b1,o1,none⟩ = some v3 ∧ W.cell? ⟨b2,o2,none⟩ = some v4) :
  w1.cell? ⟨b,0,none⟩ = some v0 ∧ w1.cell? ⟨b,1,none⟩ = some v1 ∧ w1.cell? ⟨b,2,none⟩ = some v2 ∧ w1.cell? ⟨b1,o1,none⟩ = some v3 ∧ w1.cell? ⟨b2,o2,none⟩ = some v4 :=
 have k := keep3 hb h2 ⟨h4.1,h4.2.1,h4.2.2.1⟩
 ⟨k.1,k.2.1,k.2.2,(hb.cell (p := ⟨b1,o1,none⟩) h3).trans h4.2.2.2.1,(hb.cell (p := ⟨b2,o2,none⟩) h5).trans h4.2.2.2.2⟩

set_option maxRecDepth 100000 in
set_option maxHeartbeats 4000000 in
theorem Mul5_any (D : Desc) (p q : List Int) (A A1 A2 : Option Addr) (c c1 c2 : Nat) (w : World) (hr : Rd w w.heap.size A (modL D)) (hr1 : Rd w w.heap.size A1 p) (hr2 : Rd w w.heap.size A2 q) (hl1 : p.length ≤ 20000) (hl2 : q.length ≤ 20000) :
  Calls Tryz.prog 38 #[.agg #[.int .i64 D.p,.int .i64 D.m,.slice A D.mod.length c],.slice A1 p.length c1,.slice A2 q.length c2] w (Gives w.heap.size (mulI D p q) w) := by
 have hC1 := fun W a => Lib.hid (Canon5_any D p A A1 c c1 W a (by omega))
 have hC2 := fun W a => Lib.hid (Canon5_any D q A A2 c c2 W a (by omega))
 have hM := fun y z W hr => Lib.hid (Mul_any D y z A c W hr)
 have hA := fun y z W => Lib.hid (Add_any D y z A D.mod.length c W)
 have hbx0 := Lib.hid (Bx.new w D A D.mod.length c 24);have hB0 : Below w.heap.size w (w.alloc (.cells #[.int .i64 D.p,.int .i64 D.m,.slice A D.mod.length c] 24)) := (Below.refl _ _).alloc (Nat.le_refl _) _;have hle1 := canI_le D p;have hle2 := canI_le D q;obtain ⟨P,hP⟩ : ∃ P,P = cfR D p := ⟨_,rfl⟩;obtain ⟨Q,hQ⟩ : ∃ Q,Q = cfR D q := ⟨_,rfl⟩;have hpP : ∀ i,eli D ((canI D p)[i]?.getD 0) = P i := fun i => by rw [hP,← cfR_canI]; rfl
 have hqQ : ∀ i,eli D ((canI D q)[i]?.getD 0) = Q i := fun i => by rw [hQ,← cfR_canI]; rfl
 have hP0 : ∀ t,(canI D p).length ≤ t → P t = 0 := fun t h => by rw [← hpP,List.getElem?_eq_none h]; exact eli_zero
 have hQ0 : ∀ t,(canI D q).length ≤ t → Q t = 0 := fun t h => by rw [← hqQ,List.getElem?_eq_none h]; exact eli_zero
 have hres : canI D (lst ((canI D p).length + (canI D q).length) fun t => ci (convP P Q (canI D p).length 0 t)) = mulI D p q :=
  canI_mulI (by omega) (fun t => by rw [convP_full _ _ hP0,hP,hQ]) (fun t h => by rw [convP_full _ _ hP0]; exact conv_high hP0 hQ0 (by omega))
 obtain ⟨p',hp'⟩ : ∃ p',p' = canI D p := ⟨_,rfl⟩;obtain ⟨q',hq'⟩ : ∃ q',q' = canI D q := ⟨_,rfl⟩;rw [← hp'] at hle1 hC1 hpP hP0 hres;rw [← hq'] at hle2 hC2 hqQ hQ0 hres;obtain ⟨N1,hN1⟩ : ∃ N1,N1 = p'.length := ⟨_,rfl⟩;obtain ⟨N2,hN2⟩ : ∃ N2,N2 = q'.length := ⟨_,rfl⟩;have hmk := mk_ints (N1 + N2) (by omega);rw [Int.natCast_add] at hmk;have hF := fun g W a => Lib.hid (Canon5_any D (lst (N1 + N2) fun t => ci (convP P Q N1 0 t)) A g c (N1 + N2) W a (by rw [lst_length]; omega))
 rw [lst_length,hN1,hN2,hres,← hN1,← hN2] at hF;unfold Gives at hC1 hC2;rw [← hN1] at hC1 hP0;rw [← hN2] at hC2 hQ0;have hNN : N1 + N2 ≤ 40000 := by omega
 replace hP := Lib.hid hP;replace hQ := Lib.hid hQ;replace hpP := Lib.hid hpP;replace hqQ := Lib.hid hqQ;replace hP0 := Lib.hid hP0;replace hQ0 := Lib.hid hQ0;replace hp' := Lib.hid hp';replace hq' := Lib.hid hq';replace hN1 := Lib.hid hN1;replace hN2 := Lib.hid hN2;clear hres hle1 hle2;go_enter Tryz.func38,Tryz.ntmps38;go_wp2_with (fail);(with_reducible refine (hC1 _ ((hr1.below hB0).more hB0.size)).out.mono ?_);rintro e w1 ⟨g1,rfl,hg1,hib1,hb1⟩;have hB1 := hB0.trans (hb1.mono hB0.size);have hs1 : w.heap.size < w1.heap.size := by have := hb1.size; simp only [World.size_alloc] at this; omega
 have hbx1 := Lib.hid (hbx0.out.below hb1 (by simp));obtain ⟨q0,q1,q2⟩ := hbx1.out.cells;go_wp2_with (fail);(with_reducible refine (hC2 _ ((hr2.below hB1).more hB1.size)).out.mono ?_);rintro e w2 ⟨g2,rfl,hg2,hib2,hb2⟩;have hB2 := hB1.trans (hb2.mono hB1.size);have hs2 : w.heap.size < w2.heap.size := Nat.lt_of_lt_of_le hs1 hb2.size;have hbx2 := hbx1.out.below hb2 hs1;have hg1l := hib1.lt;have hib12 := hib1.below hb2 hg1l;have hg1l2 := hib12.lt;have hg2l2 := hib2.lt;obtain ⟨g,hg⟩ : ∃ g,g = w2.heap.size := ⟨_,rfl⟩;obtain ⟨Y,hY⟩ : ∃ Y,Y = w2.alloc (.cells (Array.replicate (N1 + N2) (Value.int .i64 0)) 3) := ⟨_,rfl⟩;have hib : IB Y g (lst (N1 + N2) fun t => ci (convP P Q 0 0 t)) := by
  rw [hY,hg,lst_congr (g := fun _ => 0) (fun i _ => by rw [convP_zero,ci_zero]),← lst_zero]; exact IB.newz w2 _
 have hbY : Below w2.heap.size w2 Y := by rw [hY]; exact (Below.refl _ _).alloc (Nat.le_refl _) _
 have hYs : g < Y.heap.size := by rw [hY,hg]; simp
 have hbxY := hbx2.below hbY hs2;have hBY := hB2.trans (hbY.mono hB2.size);have h1Y := hib12.below hbY hg1l2;have h2Y := hib2.below hbY hg2l2;have hgw : w.heap.size < g := by omega
 have hg1g : g1 < g := by omega
 have hg2g : g2 < g := by omega
 replace hY := Lib.hid hY;replace hg := Lib.hid hg;replace hib := Lib.hid hib;clear hib1 hib2 hib12 hbY hbx2 hbx1 hbx0 hb1 hb2 hC1 hC2 q0 q1 q2 hg1l hg1l2 hg2l2 hg1 hg2 hB1 hB2 hB0 hs1 hs2;go_wp2_with (fail);rw [← hY.out];simp only [← hg.out];go_loopw [8,9] (fun i _ wr => ∃ k : Nat,k ≤ N1 ∧ i = .int .i64 k ∧ Hid (IB wr g (lst (N1 + N2) fun t => ci (convP P Q k 0 t))) ∧ Bx wr w.heap.size D A D.mod.length c ∧ IB wr g1 p' ∧ IB wr g2 q' ∧ Below w.heap.size w wr) (fun i _ _ => N1 - (intOf i).toNat)
 case atStart => exact ⟨0,by omega,rfl,hib,hbxY,h1Y,h2Y,hBY⟩
 case round =>
  clear hib hbxY h1Y h2Y hBY hYs hY;obtain ⟨wo,rfl⟩ : ∃ wo : World,wo = wr := ⟨_,rfl⟩;obtain ⟨i,hi,rfl,hib,hbx,hp1,hq1,hbw⟩ := hrel;by_cases hlt : i < N1
  ·have hi0 : (0 : Int) ≤ (i : Int) := by omega
   have hi1 : (i : Int) < (N1 : Int) := by omega
   go_wp2_with (fail);go_loopw [9] (fun j' wr => ∃ j : Nat,j ≤ N2 ∧ j' = .int .i64 j ∧ Hid (IB wr g (lst (N1 + N2) fun t => ci (convP P Q i j t))) ∧ Bx wr w.heap.size D A D.mod.length c ∧ IB wr g1 p' ∧ IB wr g2 q' ∧ Below w.heap.size w wr) (fun j' _ => N2 - (intOf j').toNat)
   case atStart => exact ⟨0,by omega,rfl,hib,hbx,hp1,hq1,hbw⟩
   case round =>
    clear hib hbx hp1 hq1 hbw;obtain ⟨wi,rfl⟩ : ∃ wi : World,wi = wr := ⟨_,rfl⟩;obtain ⟨j,hj,rfl,hib,hbx,hp1,hq1,hbw⟩ := hrel;by_cases hjl : j < N2
    ·have hj0 : (0 : Int) ≤ (j : Int) := by omega
     have hj1 : (j : Int) < (N2 : Int) := by omega
     have hx1 := hp1.cell (i := i) (by rw [← hN1.out]; exact hlt);have hx2 := hq1.cell (i := j) (by rw [← hN2.out]; exact hjl);have hx3 := hib.out.cell (i := i + j) (by rw [lst_length]; omega);rw [lst_get _ (by omega : i + j < N1 + N2)] at hx3;have hgl := hib.out.lt;have hg1l := hp1.lt;have hg2l := hq1.lt;have hwl : w.heap.size < wi.heap.size := by omega
     obtain ⟨y1,hy1⟩ : ∃ y1,y1 = p'[i]?.getD 0 := ⟨_,rfl⟩;obtain ⟨y2,hy2⟩ : ∃ y2,y2 = q'[j]?.getD 0 := ⟨_,rfl⟩;obtain ⟨y3,hy3⟩ : ∃ y3,y3 = ci (convP P Q i j (i + j)) := ⟨_,rfl⟩;obtain ⟨y4,hy4⟩ : ∃ y4,y4 = ci (convP P Q i (j + 1) (i + j)) := ⟨_,rfl⟩;rw [← hy1] at hx1;rw [← hy2] at hx2;rw [← hy3] at hx3;have hM2 := fun W a => hM y1 y2 W a
     have hA2 := fun W => (hA y3 (ci (eli D y1 * eli D y2)) W).out
     have he4 : ci (eli D y3 + eli D (ci (eli D y1 * eli D y2))) = y4 := by
      rw [eli_ci,hy3,eli_ci,hy1,hy2,hpP.out,hqQ.out,hy4,convP_step]
     rw [he4] at hA2;replace hA2 := fun W => Lib.hid (hA2 W)
     have hnew : (lst (N1 + N2) fun t => ci (convP P Q i j t)).set (i + j) y4 = lst (N1 + N2) fun t => ci (convP P Q i (j + 1) t) := by
      rw [lst_set];refine lst_congr fun t _ => ?_
      by_cases e : t = i + j
      ·rw [if_pos e,e,hy4]
      ·rw [if_neg e,convP_other _ _ e]
     have hset := fun W (h : IB W g _) => hnew ▸ h.set_ (i + j) y4
     replace hset := Lib.hid hset;have hw1 : IntKind.i64.wrap ((i : Int) + (j : Int)) = (i : Int) + (j : Int) := IntWalk.i64_in _ (by omega);have hw2 : (0 : Int) ≤ (i : Int) + (j : Int) := by omega
     have hw3 : (i : Int) + (j : Int) < (N1 : Int) + (N2 : Int) := by omega
     have hw4 : ((i : Int) + (j : Int)).toNat = i + j := by omega
     have hcc := Lib.hid (show _ ∧ _ ∧ _ ∧ _ ∧ _ from ⟨hbx.cells.1,hbx.cells.2.1,hbx.cells.2.2,hx1,hx2⟩);have hM3 := hM2 wi.drew ((hr.below hbw).more hbw.size).drew;replace hy1 := Lib.hid hy1;replace hy2 := Lib.hid hy2;replace hy3 := Lib.hid hy3;replace hy4 := Lib.hid hy4;have hkl : Hid (i + j < (lst (N1 + N2) fun t => ci (convP P Q i j t)).length) := by unfold Hid; rw [lst_length]; omega
     clear hx1 hx2 hbx he4 hnew hM2;go_wp2_with (fail);refine wp_region_held_drew (S := fun w' => w'.cell? ⟨w.heap.size,0,none⟩ = some (.int .i64 D.p) ∧ w'.cell? ⟨w.heap.size,1,none⟩ = some (.int .i64 D.m) ∧ w'.cell? ⟨w.heap.size,2,none⟩ = some (.slice A D.mod.length c) ∧ w'.cell? ⟨g1,i,none⟩ = some (.int .i64 y1) ∧ w'.cell? ⟨g2,j,none⟩ = some (.int .i64 y2)) (by kernel_rfl) (by (try dsimp only); exact hcc.out) (fun hHeld => ?_);refine tk 0 ?_; try simp only [pS]
     refine tk 1 ?_; try simp only [pS]
     refine tk 2 ?_; try simp only [pS]
     refine tk 3 ?_; try simp only [pS]
     refine tk 4 ?_; try simp only [pS]
     refine tk 5 ?_; try simp only [pS]
     refine tk 6 ?_; try simp only [pS]
     refine tk 7 ?_; try simp only [pS]
     refine tk 8 ?_; try simp only [pS]
     refine tk 9 ?_; try simp only [pS]
     refine tk 11 ?_; try simp only [pS]
     refine tk 12 ?_; try simp only [pS]
     refine tk 13 ?_; try simp only [pS]
     refine tk 14 ?_; try simp only [pS]
     refine tk 15 ?_; try simp only [pS]
     refine tk 16 ?_; try simp only [pS]
     refine tk 17 ?_; try simp only [pS]
     refine tk 18 ?_; try simp only [pS]
     refine tk 19 ?_; try simp only [pS]
     refine wpAnyH_ready (rs := [10,20]) (by kernel_rfl) (by simp) ?_;refine AllReadyH.cons (o := ⟨_,_,_,_,_,_⟩) rfl (fun K hK => ?_) ?_
     ·go_simp;refine hK.out _ _ (by (try dsimp only); first | exact hccM.out | exact hcc.out) (fun hHeld => ?_);clear hK K;try simp only [pS]
      refine rd 20 fun K hK => ?_
      go_simp;go_at_call 29;(with_reducible refine (hM3).out.mono ?_);rintro e w4 ⟨rfl,hb4⟩;have hccM := Lib.hid (keep6c hb4 hwl hg1l hg2l hcc.out);have hx4 := (hb4.cell (p := ⟨g,i + j,none⟩) hgl).trans hx3;go_wp2_with (fail);refine hK.out _ _ (by (try dsimp only); exact hccM.out) (fun hHeld => ?_);clear hK K;try simp only [pS]
      have hs4 : wi.heap.size ≤ w4.heap.size := hb4.size;refine rd 21 fun K hK => ?_
      go_simp;go_at_call 96;(with_reducible refine (hA2 w4).out.mono ?_);rintro e w5 ⟨rfl,hb5⟩;have hccA := Lib.hid (keep6c hb5 (Nat.lt_of_lt_of_le hwl hs4) (Nat.lt_of_lt_of_le hg1l hs4) (Nat.lt_of_lt_of_le hg2l hs4) hccM.out);go_wp2_with (fail);refine hK.out _ _ (by (try dsimp only); exact hccA.out) (fun hHeld => ?_);clear hK K;try simp only [pS]
      have hib5 := (hib.out.drew.below hb4 hgl).below hb5 (Nat.lt_of_lt_of_le hgl hs4);have hcW := hib5.cell hkl.out;have hfW := hib5.frozen (i + j);refine tk 22 ?_; try simp only [pS]
      refine rd 23 fun K hK => ?_
      go_simp;refine hK.out _ _ (by (try dsimp only); exact keep6c (B := g) ((Below.refl _ _).setCell (p := ⟨g,i + j,none⟩) (Nat.le_refl _) _) hgw hg1g hg2g hccA.out) (fun hHeld => ?_);clear hK K;try simp only [pS]
      refine wpAnyH_done (by kernel_rfl) ?_ _;have kk := keep6c (B := g) ((Below.refl _ _).setCell (p := ⟨g,i + j,none⟩) (Nat.le_refl _) (.int .i64 y4)) hgw hg1g hg2g hccA.out;have hb45 := hb4.trans (hb5.mono hb4.size);have hp5 := Lib.hid ((hp1.drew.below hb45 hg1l).far (p := ⟨g,i + j,none⟩) (Nat.ne_of_lt hg1g) (.int .i64 y4));have hq5 := Lib.hid ((hq1.drew.below hb45 hg2l).far (p := ⟨g,i + j,none⟩) (Nat.ne_of_lt hg2g) (.int .i64 y4));have hB5 := Lib.hid ((hbw.drew.trans (hb45.mono hbw.size)).setCell (p := ⟨g,i + j,none⟩) (Nat.le_of_lt hgw) (.int .i64 y4));have hI5 := Lib.hid (hset.out _ hib5);replace kk := Lib.hid kk;clear hcW hfW hx3 hx4 hw4;go_wp2_with (fail);go_roundw
      case rel => exact ⟨j + 1,by omega,by go_num,hI5,⟨kk.out.1,kk.out.2.1,kk.out.2.2.1⟩,hp5.out,hq5.out,hB5.out⟩
      case measure => simp [intOf]; omega
     refine AllReadyH.cons (o := ⟨_,_,_,_,_,_⟩) rfl (fun K hK => ?_) AllReadyH.nil;go_simp;go_at_call 29;(with_reducible refine (hM3).out.mono ?_);rintro e w4 ⟨rfl,hb4⟩;have hccM := Lib.hid (keep6c hb4 hwl hg1l hg2l hcc.out);have hx4 := (hb4.cell (p := ⟨g,i + j,none⟩) hgl).trans hx3;go_wp2_with (fail);refine hK.out _ _ (by (try dsimp only); exact hccM.out) (fun hHeld => ?_);clear hK K;try simp only [pS]
     refine rd 10 fun K hK => ?_
     go_simp;refine hK.out _ _ (by (try dsimp only); first | exact hccM.out | exact hcc.out) (fun hHeld => ?_);clear hK K;try simp only [pS]
     have hs4 : wi.heap.size ≤ w4.heap.size := hb4.size;refine rd 21 fun K hK => ?_
     go_simp;go_at_call 96;(with_reducible refine (hA2 w4).out.mono ?_);rintro e w5 ⟨rfl,hb5⟩;have hccA := Lib.hid (keep6c hb5 (Nat.lt_of_lt_of_le hwl hs4) (Nat.lt_of_lt_of_le hg1l hs4) (Nat.lt_of_lt_of_le hg2l hs4) hccM.out);go_wp2_with (fail);refine hK.out _ _ (by (try dsimp only); exact hccA.out) (fun hHeld => ?_);clear hK K;try simp only [pS]
     have hib5 := (hib.out.drew.below hb4 hgl).below hb5 (Nat.lt_of_lt_of_le hgl hs4);have hcW := hib5.cell hkl.out;have hfW := hib5.frozen (i + j);refine tk 22 ?_; try simp only [pS]
     refine rd 23 fun K hK => ?_
     go_simp;refine hK.out _ _ (by (try dsimp only); exact keep6c (B := g) ((Below.refl _ _).setCell (p := ⟨g,i + j,none⟩) (Nat.le_refl _) _) hgw hg1g hg2g hccA.out) (fun hHeld => ?_);clear hK K;try simp only [pS]
     refine wpAnyH_done (by kernel_rfl) ?_ _;have kk := keep6c (B := g) ((Below.refl _ _).setCell (p := ⟨g,i + j,none⟩) (Nat.le_refl _) (.int .i64 y4)) hgw hg1g hg2g hccA.out;have hb45 := hb4.trans (hb5.mono hb4.size);have hp5 := Lib.hid ((hp1.drew.below hb45 hg1l).far (p := ⟨g,i + j,none⟩) (Nat.ne_of_lt hg1g) (.int .i64 y4));have hq5 := Lib.hid ((hq1.drew.below hb45 hg2l).far (p := ⟨g,i + j,none⟩) (Nat.ne_of_lt hg2g) (.int .i64 y4));have hB5 := Lib.hid ((hbw.drew.trans (hb45.mono hbw.size)).setCell (p := ⟨g,i + j,none⟩) (Nat.le_of_lt hgw) (.int .i64 y4));have hI5 := Lib.hid (hset.out _ hib5);replace kk := Lib.hid kk;clear hcW hfW hx3 hx4 hw4;go_wp2_with (fail);go_roundw
     case rel => exact ⟨j + 1,by omega,by go_num,hI5,⟨kk.out.1,kk.out.2.1,kk.out.2.2.1⟩,hp5.out,hq5.out,hB5.out⟩
     case measure => simp [intOf]; omega
    ·obtain rfl : j = N2 := by omega
     have hib2 := hib.out;rw [lst_congr (fun t _ => by rw [convP_row P Q hQ0.out t])] at hib2;replace hib2 := Lib.hid hib2;go_wp2_with (fail);go_roundw
     case rel => exact ⟨i + 1,by omega,by go_num,hib2,hbx,hp1,hq1,hbw⟩
     case measure => simp [intOf]; omega
  ·obtain rfl : i = N1 := by omega
   obtain ⟨q0,q1,q2⟩ := hbx.cells;go_wp2_with (fail);(with_reducible refine (hF (some ⟨g,0,none⟩) wo hib.out.rd).out.mono ?_);rintro e w4 ⟨g4,rfl,hg4,hib4,hb4⟩;go_wp2_with (fail);go_ret;exact ⟨g4,rfl,Nat.le_trans hbw.size hg4,hib4,hbw.trans (hb4.mono hbw.size)⟩
end
end Go.Proofs.YtjdoneanohhkmaaGreat
