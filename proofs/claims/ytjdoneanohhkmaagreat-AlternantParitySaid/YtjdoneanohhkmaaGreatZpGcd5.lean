/- The reference's polynomials: Monic, Gcd, times, Derivative. -/
import Derived.Test.YtjdoneanohhkmaaGreatZpGcdW
import Derived.Test.YtjdoneanohhkmaaGreatZpDiv7
import Derived.Test.YtjdoneanohhkmaaGreatZpTk
namespace Go.Proofs.YtjdoneanohhkmaaGreat
open Go.RowKit Cw
open Cw.CField (inv)
attribute [local go_sem] Oper.semAt_some

theorem GcdI.stepQ {D : Desc} {p q r l : List Int} (hd : QuoI D p q r) (h : GcdI D (plI D q) (plI D r) l) : GcdI D (plI D p) (plI D q) l := by
 obtain ⟨k,hk⟩ := hd;refine ⟨h.can,?_,h.da,?_⟩
 ·rw [hk];exact (h.da.mul _).add h.db
 ·obtain ⟨u,v,e⟩ := h.bez;refine ⟨v,u - v * k,?_⟩;rw [← e,hk,mul_add,sub_d,add_mul,neg_mul,mul_a];rw [show v * (k * plI D q) + v * plI D r + (u * plI D q + -(v * (k * plI D q))) = u * plI D q + v * plI D r + (v * (k * plI D q) + -(v * (k * plI D q))) by ac_rfl,add_neg,add_zero]
def Mon5Post (F : FD) (p : List Int) (w : World) (e : Ending) (w' : World) : Prop :=
 ∃ l A c,e = .returned (.slice A l.length c) ∧ Rd w' w'.heap.size A l ∧ GcdI F.toDesc (plI F.toDesc p) 0 l ∧ Below w.heap.size w w'
set_option maxHeartbeats 2000000 in
theorem times5_any (F : FD) (n : Nat) (x : Int) (A : Option Addr) (c : Nat) (w : World) (hn : n ≤ 1000000) :
  Calls Tryz.prog 179 #[.agg #[.int .i64 F.p,.int .i64 F.m,.slice A F.mod.length c],.int .i64 n,.int .i64 x] w fun e w' => e = .returned (.int .i64 (ci (nsm n (eli F.toDesc x)))) ∧ Below w.heap.size w w' := by
 have hp2 := F.p2; have hp1 := F.p256;obtain ⟨m,hm⟩ : ∃ m,m = n % F.p := ⟨_,rfl⟩;have hmt : (n : Int).tmod (F.p : Int) = (m : Int) := by rw [Int.tmod_eq_emod_of_nonneg (by omega),hm]; rfl
 have hpz : ¬ (F.p : Int) = 0 := by omega
 have hml : m ≤ 256 := by have := Nat.mod_lt n (show 0 < F.p by omega); omega
 obtain ⟨f,hf⟩ : ∃ f : Nat → R F.toDesc,f = fun k => nsm k (eli F.toDesc x) := ⟨_,rfl⟩
 have hfin : Hid (f m = nsm n (eli F.toDesc x)) := by
  rw [Hid,hf,hm]
  show nsm (n % F.p) (eli F.toDesc x) = _
  rw [nsm_mul,nsm_modp char_R,← nsm_mul]
 have hf0 : Hid ((0 : Int) = ci (f 0)) := by rw [Hid,hf]; show (0 : Int) = ci (nsm 0 (eli F.toDesc x)); rw [nsm_zero,ci_zero]
 have hA : ∀ k W,Calls Tryz.prog 96 #[.agg #[.int .i64 F.p,.int .i64 F.m,.slice A F.mod.length c],.int .i64 (ci (f k)),.int .i64 x] W fun e w' => e = .returned (.int .i64 (ci (f (k + 1)))) ∧ Below W.heap.size W w' := fun k W => by
  have h1 := Add_any F.toDesc (ci (f k)) x A F.mod.length c W;rw [eli_ci,show f k + eli F.toDesc x = f (k + 1) from by rw [hf]; show nsm k (eli F.toDesc x) + eli F.toDesc x = nsm (k + 1) (eli F.toDesc x); rw [nsm_succ]] at h1;exact h1
 replace hA := fun k W => Lib.hid (hA k W)
 rw [← hfin.out];have hbx0 := Lib.hid (Bx.new w F.toDesc A F.mod.length c 24);obtain ⟨Y,hY⟩ : ∃ Y,Y = w.alloc (.cells #[.int .i64 F.p,.int .i64 F.m,.slice A F.mod.length c] 24) := ⟨_,rfl⟩;rw [← hY] at hbx0;have hB : Below w.heap.size w Y := by rw [hY]; exact (Below.refl _ _).alloc (Nat.le_refl _) _
 have hYs : w.heap.size < Y.heap.size := by rw [hY]; simp
 replace hY := Lib.hid hY;replace hm := Lib.hid hm;replace hf := Lib.hid hf;go_enter Tryz.func179,Tryz.ntmps179;go_wp2_with (fail);rw [← hY.out];go_loopw [7,8] (fun vo vi wr => ∃ k : Nat,k ≤ m ∧ vi = .int .i64 k ∧ vo = .int .i64 (ci (f k)) ∧ Below Y.heap.size Y wr) (fun _ vi _ => m - (intOf vi).toNat)
 case atStart => exact ⟨0,by omega,rfl,by rw [← hf0.out],Below.refl _ _⟩
 case round =>
  obtain ⟨w1,rfl⟩ : ∃ w1 : World,w1 = wr := ⟨_,rfl⟩;obtain ⟨k,hk,rfl,rfl,hb1⟩ := hrel;obtain ⟨q0,q1,q2⟩ := (hbx0.out.below hb1 hYs).cells;by_cases hkm : k < m
  ·have k0 : (0 : Int) ≤ (k : Int) := by omega
   have k1 : (k : Int) < (m : Int) := by omega
   have hq := hA k w1;go_wp2_with (fail);(with_reducible refine hq.out.mono ?_);rintro e w2 ⟨rfl,hb2⟩;go_wp2_with (fail);go_roundw
   case rel => exact ⟨k + 1,by omega,by go_num,rfl,hb1.trans (hb2.mono hb1.size)⟩
   case measure => simp [intOf]; omega
  ·obtain rfl : m = k := by omega
   go_wp2_with (fail);go_ret;exact ⟨rfl,hB.trans (hb1.mono hB.size)⟩
set_option maxRecDepth 100000 in
set_option maxHeartbeats 4000000 in
theorem Deriv5_any (F : FD) (p : List Int) (A A1 : Option Addr) (c c1 : Nat) (w : World) (hr1 : Rd w w.heap.size A1 p) (hl : p.length ≤ 20000) :
  Calls Tryz.prog 106 #[.agg #[.int .i64 F.p,.int .i64 F.m,.slice A F.mod.length c],.slice A1 p.length c1] w fun e w' => ∃ A' c',e = .returned (.slice A' (derI F.toDesc p).length c') ∧ Rd w' w'.heap.size A' (derI F.toDesc p) ∧ Below w.heap.size w w' := by
 obtain ⟨n,hn⟩ : ∃ n,n = p.length := ⟨_,rfl⟩;obtain ⟨X,hX⟩ : ∃ X,X = w.alloc (.cells #[.int .i64 F.p,.int .i64 F.m,.slice A F.mod.length c] 24) := ⟨_,rfl⟩;have hbX : Below w.heap.size w X := by rw [hX]; exact (Below.refl _ _).alloc (Nat.le_refl _) _
 have hXs : X.heap.size = w.heap.size + 1 := by rw [hX]; simp
 have hbxX : Bx X w.heap.size F.toDesc A F.mod.length c := by rw [hX]; exact Bx.new w F.toDesc A F.mod.length c _
 by_cases h0 : n = 0
 ·have hz : Hid (derI F.toDesc p = []) := by
   have : p = [] := List.eq_nil_of_length_eq_zero (by omega);rw [this]; rfl
  have hb0 : ((n : Int) == 0) = true := by rw [beq_iff_eq]; omega
  rw [← hn];replace hn := Lib.hid hn;replace h0 := Lib.hid h0;replace hX := Lib.hid hX;clear hXs hbxX;go_enter Tryz.func106,Tryz.ntmps106;go_wp2_with (fail);rw [← hX.out];go_ret;rw [hz.out];exact ⟨none,0,rfl,Rd.nil,hbX⟩
 ·obtain ⟨m,hm⟩ : ∃ m,n = m + 1 := ⟨n - 1,by omega⟩;have hb0 : ((n : Int) == 0) = false := by rw [beq_eq_false_iff_ne]; omega
  have hw1 : IntKind.i64.wrap ((n : Int) - 1) = (m : Int) := by rw [IntWalk.i64_in _ (by omega)]; omega
  have hmk := mk_ints m (by omega);have hm0 : (0 : Int) ≤ (m : Int) := by omega
  have hm2 : m ≤ 20000 := by omega
  obtain ⟨f,hf⟩ : ∃ f : Nat → R F.toDesc,f = fun i => nsm (i + 1) (cfR F.toDesc p (i + 1)) := ⟨_,rfl⟩
  have hT := fun y i W (hi : i ≤ 20000) => times5_any F (i + 1) y A c W (by omega)
  have hfin := canI_lst F.toDesc f m;rw [show canL (fun i => ci (f i)) m = derI F.toDesc p from by rw [hf]; unfold derI; rw [← hn,hm,Nat.add_sub_cancel]] at hfin;have hC := fun A' c' W h => Canon5_any F.toDesc (lst m fun i => ci (f i)) A A' c c' W h (by rw [lst_length]; omega)
  rw [hfin,lst_length] at hC;obtain ⟨g,hg⟩ : ∃ g,g = w.heap.size + 1 := ⟨_,rfl⟩;obtain ⟨Y,hY⟩ : ∃ Y,Y = X.alloc (.cells (Array.replicate m (Value.int .i64 0)) 3) := ⟨_,rfl⟩;have hib : IB Y g (upd m 0 fun i => ci (f i)) := by rw [upd_zero,hY,hg,← hXs]; exact IB.newz X m
  have hbY : Below X.heap.size X Y := by rw [hY]; exact (Below.refl _ _).alloc (Nat.le_refl _) _
  have hBY := hbX.trans (hbY.mono hbX.size);have hbxY := hbxX.below hbY (by omega);have hwg : w.heap.size < g := by omega
  rw [← hn];replace hm := Lib.hid hm;replace hn := Lib.hid hn;replace h0 := Lib.hid h0;replace hf := Lib.hid hf;replace hX := Lib.hid hX;replace hY := Lib.hid hY;clear hbxX hbX hXs hbY;go_enter Tryz.func106,Tryz.ntmps106;go_wp2_with (fail);rw [← hX.out];rw [← hY.out];simp only [← hg];replace hg := Lib.hid hg;go_loopw [6] (fun iS wr => ∃ i : Nat,i ≤ m ∧ iS = .int .i64 i ∧ Hid (IB wr g (upd m i fun i => ci (f i))) ∧ Bx wr w.heap.size F.toDesc A F.mod.length c ∧ Below w.heap.size w wr) (fun iS _ => m - (intOf iS).toNat)
  case atStart => exact ⟨0,by omega,rfl,hib,hbxY,hBY⟩
  case round =>
   clear hib hbxY hBY hX hY;obtain ⟨w2,rfl⟩ : ∃ w2 : World,w2 = wr := ⟨_,rfl⟩;obtain ⟨i,hi,rfl,hib,hbx,hbw⟩ := hrel;have hgl := hib.out.lt;have hwl : w.heap.size < w2.heap.size := by omega
   by_cases him : i < m
   ·have i0 : (0 : Int) ≤ (i : Int) := by omega
    have i1 : (i : Int) < (m : Int) := by omega
    have kw : IntKind.i64.wrap ((i : Int) + 1) = (i : Int) + 1 := by rw [IntWalk.i64_in _ (by omega)]
    obtain ⟨kp,hkp⟩ : ∃ kp : Nat,kp = i + 1 := ⟨_,rfl⟩;have hkpI : (i : Int) + 1 = (kp : Int) := by omega
    have k2 : (0 : Int) ≤ (kp : Int) := by omega
    have k3 : (kp : Int) < (n : Int) := by have := hm.out; omega
    rw [hkpI] at kw;obtain ⟨b,o,rfl,hb,hc⟩ := hr1.at_ (k := kp) (by have := hn.out; have := hm.out; omega);have hM2 := hT (p[kp]?.getD 0) i w2.drew (by omega);rw [← hkp,show nsm kp (eli F.toDesc (p[kp]?.getD 0)) = f i from by rw [hf.out,hkp]; rfl] at hM2;obtain ⟨y,hy⟩ : ∃ y,y = p[kp]?.getD 0 := ⟨_,rfl⟩;obtain ⟨v,hv⟩ : ∃ v,v = ci (f i) := ⟨_,rfl⟩;rw [← hy] at hc hM2;rw [← hv] at hM2;have hd := (hbw.cell (p := ⟨b,o + kp,none⟩) hb).trans hc;have hb' := Nat.lt_of_lt_of_le hb hbw.size;have hbg : b ≠ g := by omega
    have hcc := Lib.hid (show _ ∧ _ from ⟨hbx.cells,hd⟩);have hkk : Hid (i < (upd m i fun i => ci (f i)).length) := by unfold Hid; rw [upd_length]; exact him
    replace hM2 := Lib.hid hM2;replace hy := Lib.hid hy;replace hv := Lib.hid hv;replace hkp := Lib.hid hkp;clear hc hd;go_wp2_with (fail);refine wp_region_held_drew (S := fun w' => (w'.cell? ⟨w.heap.size,0,none⟩ = some (.int .i64 F.p) ∧ w'.cell? ⟨w.heap.size,1,none⟩ = some (.int .i64 F.m) ∧ w'.cell? ⟨w.heap.size,2,none⟩ = some (.slice A F.mod.length c)) ∧ w'.cell? ⟨b,o + kp,none⟩ = some (.int .i64 y)) (by kernel_rfl) (by (try dsimp only); exact hcc.out) (fun hHeld => ?_);refine tk 0 ?_; try simp only [pS]
    refine tk 1 ?_; try simp only [pS]
    refine tk 2 ?_; try simp only [pS]
    refine tk 3 ?_; try simp only [pS]
    refine tk 4 ?_; try simp only [pS]
    refine tk 5 ?_; try simp only [pS]
    refine tk 6 ?_; try simp only [pS]
    refine tk 7 ?_; try simp only [pS]
    refine tk 8 ?_; try simp only [pS]
    refine tk 9 ?_; try simp only [pS]
    refine rd 10 fun K hK => ?_
    go_simp;go_at_call 179;(with_reducible refine (hM2).out.mono ?_);rintro e w3 ⟨rfl,hx3⟩;have hb3 := (Below.refl w2.heap.size w2).drew.trans hx3;have hs3 := hb3.size;have hcc3 := Lib.hid (show _ ∧ _ from ⟨keep3 hb3 hwl hcc.out.1,(hb3.cell (p := ⟨b,o + kp,none⟩) hb').trans hcc.out.2⟩);have hib3 := hib.out.below hb3 hgl;have hcW := hib3.cell hkk.out;have hfW := hib3.frozen i;go_wp2_with (fail);refine hK.out _ _ (by (try dsimp only); exact hcc3.out) (fun hHeld => ?_);clear hK K;try simp only [pS]
    refine tk 11 ?_; try simp only [pS]
    refine rd 12 fun K hK => ?_
    go_simp;refine hK.out _ _ (by (try dsimp only); exact ⟨keep3 (B := g) ((Below.refl _ _).setCell (p := ⟨g,i,none⟩) (Nat.le_refl _) _) hwg hcc3.out.1,(World.cell?_setCell_far _ _ _ _ hbg.symm).trans hcc3.out.2⟩) (fun hHeld => ?_);clear hK K;try simp only [pS]
    refine wpAnyH_done (by kernel_rfl) ?_ _;have hset := hib3.set_ i v;rw [hv.out,upd_set (f := fun i => ci (f i)),← hv.out] at hset;have hbs : Hid (Below w.heap.size w (w3.setCell ⟨g,i,none⟩ (.int .i64 v))) := (hbw.trans (hb3.mono hbw.size)).setCell (p := ⟨g,i,none⟩) (Nat.le_of_lt hwg) _;have hbx5 : Hid (Bx (w3.setCell ⟨g,i,none⟩ (.int .i64 v)) w.heap.size F.toDesc A F.mod.length c) := keep3 (B := g) ((Below.refl _ _).setCell (p := ⟨g,i,none⟩) (Nat.le_refl _) _) hwg hcc3.out.1;replace hset := Lib.hid hset;clear hcW hfW;go_wp2_with (fail);go_roundw
    case rel => exact ⟨i + 1,by omega,by go_num,hset,hbx5.out,hbs.out⟩
    case measure => simp [intOf]; omega
   ·obtain rfl : i = m := by omega
    rw [upd_full] at hib;obtain ⟨q0,q1,q2⟩ := hbx.cells;have hC2 := Lib.hid (hC (some ⟨g,0,none⟩) i w2 hib.out.rd);go_wp2_with (fail);(with_reducible refine hC2.out.mono ?_);rintro e w3 ⟨g3,rfl,-,hib3,hb3⟩;go_wp2_with (fail);go_ret;exact ⟨_,_,rfl,hib3.rd,hbw.trans (hb3.mono hbw.size)⟩
theorem canI_scaleI (D : Desc) (a : Int) (p : List Int) : canI D (scaleI D a p) = scaleI D a p := canI_can _ _ fun i h => by rw [cfR_out D h,mul_zero]
set_option maxRecDepth 100000 in
set_option maxHeartbeats 2000000 in
theorem Monic5_any (F : FD) (p : List Int) (A A1 : Option Addr) (c c1 : Nat) (w : World) (hr : Rd w w.heap.size A (modL F.toDesc)) (hr1 : Rd w w.heap.size A1 p) (hl : p.length ≤ 20000) :
  Calls Tryz.prog 178 #[.agg #[.int .i64 F.p,.int .i64 F.m,.slice A F.mod.length c],.slice A1 p.length c1] w (Mon5Post F p w) := by
 have hbx0 := Lib.hid (Bx.new w F.toDesc A F.mod.length c 24);obtain ⟨Y,hY⟩ : ∃ Y,Y = w.alloc (.cells #[.int .i64 F.p,.int .i64 F.m,.slice A F.mod.length c] 24) := ⟨_,rfl⟩;rw [← hY] at hbx0;have hB : Below w.heap.size w Y := by rw [hY]; exact (Below.refl _ _).alloc (Nat.le_refl _) _
 have hYs : w.heap.size < Y.heap.size := by rw [hY]; simp
 have hC := Lib.hid (Canon5_any F.toDesc p A A1 c c1 Y ((hr1.below hB).more hB.size) (by omega));have hle := canI_le F.toDesc p;have hcq := canI_canI F.toDesc p;have hpl := Lib.hid (plI_canI F.toDesc p);obtain ⟨q,hq⟩ : ∃ q,q = canI F.toDesc p := ⟨_,rfl⟩;rw [← hq] at hC hle hcq hpl;unfold Mon5Post;rw [← hpl.out];have hI := fun x W h => Lib.hid (Inv_any F x A c W h)
 have hS := fun a B1 d1 W h1 h2 => Lib.hid (Scale5_any F.toDesc a q A B1 c d1 W h1 h2 (by omega))
 obtain ⟨n,hn⟩ : ∃ n,n = q.length := ⟨_,rfl⟩;replace hY := Lib.hid hY;replace hq := Lib.hid hq;go_enter Tryz.func178,Tryz.ntmps178;obtain ⟨q0,q1,q2⟩ := hbx0.out.cells;go_wp2_with (fail);rw [← hY.out];(with_reducible refine hC.out.mono ?_);rintro e w1 ⟨g1,rfl,hg1,hib1,hb1⟩;rw [← hn] at hS ⊢;clear q0 q1 q2 hC;obtain ⟨q0,q1,q2⟩ := (hbx0.out.below hb1 hYs).cells;have hB1 := hB.trans (hb1.mono hB.size);by_cases h0 : n = 0
 ·have hb0 : ((n : Int) == 0) = true := by rw [beq_iff_eq]; omega
  have hz : Hid (q = []) := List.eq_nil_of_length_eq_zero (by omega);have hfin : Hid (GcdI F.toDesc (plI F.toDesc q) 0 []) := by rw [hz.out,plI_nil]; exact GcdI.nil
  replace hn := Lib.hid hn;replace h0 := Lib.hid h0;go_wp2_with (fail);go_ret;exact ⟨[],some ⟨g1,0,none⟩,n,by rw [h0.out]; rfl,Rd.nil,hfin.out,hB1⟩
 ·obtain ⟨m,hm⟩ : ∃ m,n = m + 1 := ⟨n - 1,by omega⟩;have hb0 : ((n : Int) == 0) = false := by rw [beq_eq_false_iff_ne]; omega
  have hw1 : IntKind.i64.wrap ((n : Int) - 1) = (m : Int) := by rw [IntWalk.i64_in _ (by omega)]; omega
  have hm0 : (0 : Int) ≤ (m : Int) := by omega
  have hm1 : (m : Int) < (n : Int) := by omega
  have hlead : cfR F.toDesc q m ≠ 0 := can_lead hcq (by omega);have hx : inv (cfR F.toDesc q m) ≠ 0 := inv_ne_zero hlead;have hfin : Hid (GcdI F.toDesc (plI F.toDesc q) 0 (scaleI F.toDesc (ci (inv (cfR F.toDesc q m))) q)) := GcdI.monic hx (canI_scaleI _ _ _) fun t => by rw [cfR_scaleI,eli_ci]
  obtain ⟨y,hy⟩ : ∃ y,y = q[m]?.getD 0 := ⟨_,rfl⟩;have hcy := hib1.cell (i := m) (by omega);rw [← hy] at hcy;have hr1w := ((hr.below hB1).more hB1.size);have hI2 := hI y w1.drew hr1w.drew;rw [hy,show eli F.toDesc (q[m]?.getD 0) = cfR F.toDesc q m from rfl,← hy] at hI2;obtain ⟨z,hz⟩ : ∃ z,z = ci (inv (cfR F.toDesc q m)) := ⟨_,rfl⟩;rw [← hz] at hI2 hfin;have hgl := hib1.lt;have hwl : w.heap.size < w1.heap.size := Nat.lt_of_lt_of_le hYs hb1.size;have hcc := Lib.hid (show _ ∧ _ from ⟨(⟨q0,q1,q2⟩ : w1.cell? ⟨w.heap.size,0,none⟩ = some (.int .i64 F.p) ∧ w1.cell? ⟨w.heap.size,1,none⟩ = some (.int .i64 F.m) ∧ w1.cell? ⟨w.heap.size,2,none⟩ = some (.slice A F.mod.length c)),hcy⟩);have hrd1 := hib1.rd;replace hn := Lib.hid hn;replace hm := Lib.hid hm;replace hy := Lib.hid hy;replace hz := Lib.hid hz;clear hlead hx hcy q0 q1 q2;go_wp2_with (fail);refine wp_region_held_drew (S := fun w' => (w'.cell? ⟨w.heap.size,0,none⟩ = some (.int .i64 F.p) ∧ w'.cell? ⟨w.heap.size,1,none⟩ = some (.int .i64 F.m) ∧ w'.cell? ⟨w.heap.size,2,none⟩ = some (.slice A F.mod.length c)) ∧ w'.cell? ⟨g1,m,none⟩ = some (.int .i64 y)) (by kernel_rfl) (by (try dsimp only); exact hcc.out) (fun hHeld => ?_);refine tk 0 ?_; try simp only [pS]
  refine tk 1 ?_; try simp only [pS]
  refine tk 2 ?_; try simp only [pS]
  refine tk 3 ?_; try simp only [pS]
  refine tk 4 ?_; try simp only [pS]
  refine tk 5 ?_; try simp only [pS]
  refine tk 6 ?_; try simp only [pS]
  refine tk 7 ?_; try simp only [pS]
  refine tk 9 ?_; try simp only [pS]
  refine rd 8 fun K hK => ?_
  go_simp;go_at_call 110;(with_reducible refine (hI2).out.mono ?_);rintro e w3 ⟨rfl,hx3⟩;have hb3 := (Below.refl w1.heap.size w1).drew.trans hx3;have hcc3 := Lib.hid (show _ ∧ _ from ⟨keep3 hb3 hwl hcc.out.1,(hb3.cell (p := ⟨g1,m,none⟩) hgl).trans hcc.out.2⟩);have hS3 := hS z (some ⟨g1,0,none⟩) n w3 ((hr1w.below hb3).more hb3.size) ((hrd1.below hb3).more hb3.size);go_wp2_with (fail);refine hK.out _ _ (by (try dsimp only); exact hcc3.out) (fun hHeld => ?_);clear hK K;try simp only [pS]
  refine rd 10 fun K hK => ?_
  go_simp;go_at_call 226;(with_reducible refine (hS3).out.mono ?_);rintro e w4 ⟨g4,rfl,hg4,hib4,hb4⟩;have hcc4 := Lib.hid (show _ ∧ _ from ⟨keep3 hb4 (Nat.lt_of_lt_of_le hwl hb3.size) hcc3.out.1,(hb4.cell (p := ⟨g1,m,none⟩) (Nat.lt_of_lt_of_le hgl hb3.size)).trans hcc3.out.2⟩);have hbf := hB1.trans ((hb3.trans (hb4.mono hb3.size)).mono hB1.size);go_wp2_with (fail);refine hK.out _ _ (by (try dsimp only); exact hcc4.out) (fun hHeld => ?_);clear hK K;try simp only [pS]
  refine tk 11 ?_; try simp only [pS]
  refine wpAnyH_done (by kernel_rfl) ?_ _;go_wp2_with (fail);go_ret;exact ⟨_,_,_,rfl,hib4.rd,hfin.out,hbf⟩
def Gcd5Post (F : FD) (p q : List Int) (w : World) (e : Ending) (w' : World) : Prop :=
 ∃ l A c,e = .returned (.slice A l.length c) ∧ Rd w' w'.heap.size A l ∧ GcdI F.toDesc (plI F.toDesc p) (plI F.toDesc q) l ∧ Below w.heap.size w w'
set_option maxRecDepth 100000 in
set_option maxHeartbeats 4000000 in
theorem Gcd5_any (F : FD) (p q : List Int) (A A1 A2 : Option Addr) (c c1 c2 : Nat) (w : World) (hr : Rd w w.heap.size A (modL F.toDesc)) (hr1 : Rd w w.heap.size A1 p) (hr2 : Rd w w.heap.size A2 q) (hl1 : p.length ≤ 1000) (hl2 : q.length ≤ 1000) :
  Calls Tryz.prog 105 #[.agg #[.int .i64 F.p,.int .i64 F.m,.slice A F.mod.length c],.slice A1 p.length c1,.slice A2 q.length c2] w (Gcd5Post F p q w) := by
 have hbx0 := Lib.hid (Bx.new w F.toDesc A F.mod.length c 24);obtain ⟨Y,hY⟩ : ∃ Y,Y = w.alloc (.cells #[.int .i64 F.p,.int .i64 F.m,.slice A F.mod.length c] 24) := ⟨_,rfl⟩;rw [← hY] at hbx0;have hB : Below w.heap.size w Y := by rw [hY]; exact (Below.refl _ _).alloc (Nat.le_refl _) _
 have hYs : w.heap.size < Y.heap.size := by rw [hY]; simp
 have hC1 := Lib.hid (Canon5_any F.toDesc p A A1 c c1 Y ((hr1.below hB).more hB.size) (by omega));have hC2 := fun W h => Lib.hid (Canon5_any F.toDesc q A A2 c c2 W h (by omega))
 have hD := fun a b hb B1 B2 d1 d2 W h1 h2 h3 h4 h5 => Lib.hid (DivMod5_any F a b (b.length - 1) hb A B1 B2 c d1 d2 W h1 h2 h3 h4 h5)
 have hM := fun a B1 d1 W h1 h2 h3 => Lib.hid (Monic5_any F a A B1 c d1 W h1 h2 h3)
 have hle1 := canI_le F.toDesc p;have hle2 := canI_le F.toDesc q;have hK0 : Hid (∀ l,GcdI F.toDesc (plI F.toDesc (canI F.toDesc p)) (plI F.toDesc (canI F.toDesc q)) l → GcdI F.toDesc (plI F.toDesc p) (plI F.toDesc q) l) := fun l h => by rw [plI_canI,plI_canI] at h; exact h
 have hp0 := Lib.hid (canI_canI F.toDesc p);have hq0 := Lib.hid (canI_canI F.toDesc q);obtain ⟨p0,hpe⟩ : ∃ p0,p0 = canI F.toDesc p := ⟨_,rfl⟩;obtain ⟨q0,hqe⟩ : ∃ q0,q0 = canI F.toDesc q := ⟨_,rfl⟩;rw [← hpe] at hC1 hle1 hK0 hp0;rw [← hqe] at hC2 hle2 hK0 hq0;replace hpe := Lib.hid hpe;replace hqe := Lib.hid hqe;replace hY := Lib.hid hY;go_enter Tryz.func105,Tryz.ntmps105;obtain ⟨x0,x1,x2⟩ := hbx0.out.cells;go_wp2_with (fail);rw [← hY.out];(with_reducible refine hC1.out.mono ?_);rintro e w1 ⟨ga,rfl,hga,hia,hb1⟩;clear x0 x1 x2;have hC2w := hC2 w1 ((hr2.below (hB.trans (hb1.mono hB.size))).more (hB.trans (hb1.mono hB.size)).size);obtain ⟨x0,x1,x2⟩ := (hbx0.out.below hb1 hYs).cells;go_wp2_with (fail);(with_reducible refine hC2w.out.mono ?_);rintro e w2 ⟨gb,rfl,hgb,hib,hb2⟩;have hB2 := hb1.trans (hb2.mono hb1.size);have hra2 := (hia.rd.below hb2).more hb2.size;have hrb := hib.rd;have hl1' : p0.length ≤ 1000 := by omega
 have hl2' : q0.length ≤ 1000 := by omega
 clear x0 x1 x2 hC1 hC2 hC2w hia hib hb1 hb2 hr1 hr2 hle1 hle2;go_wp2_with (fail);go_loopw [1,2,7,8] (fun va vb _ _ wr => ∃ (a b : List Int) (Aa : Option Addr) (ca : Nat) (Ab : Option Addr) (cb : Nat),va = .slice Aa a.length ca ∧ vb = .slice Ab b.length cb ∧ Rd wr wr.heap.size Aa a ∧ Rd wr wr.heap.size Ab b ∧ Hid (canI F.toDesc a = a) ∧ Hid (canI F.toDesc b = b) ∧ a.length ≤ 1000 ∧ b.length ≤ 1000 ∧ Hid (∀ l,GcdI F.toDesc (plI F.toDesc a) (plI F.toDesc b) l → GcdI F.toDesc (plI F.toDesc p) (plI F.toDesc q) l) ∧ Below Y.heap.size Y wr) (fun _ vb _ _ _ => lenV2 vb)
 case atStart => exact ⟨p0,q0,some ⟨ga,0,none⟩,_,some ⟨gb,0,none⟩,_,rfl,rfl,hra2,hrb,hp0,hq0,hl1',hl2',hK0,hB2⟩
 case round =>
  clear hra2 hrb hp0 hq0 hl1' hl2' hK0 hB2 hpe hqe;obtain ⟨w3,rfl⟩ : ∃ w3 : World,w3 = wr := ⟨_,rfl⟩;obtain ⟨a,b,Aa,ca,Ab,cb,rfl,rfl,hra,hrb,hca,hcb,hla,hlb,hK,hb3⟩ := hrel;have hB3 := hB.trans (hb3.mono hB.size);have hr3 := (hr.below hB3).more hB3.size;obtain ⟨x0,x1,x2⟩ := (hbx0.out.below hb3 hYs).cells;by_cases hb0 : b.length = 0
  ·have hbn : Hid (b = []) := List.eq_nil_of_length_eq_zero hb0;have hnb : ¬ (0 : Int) < (b.length : Int) := by omega
   have hq := hM a Aa ca w3 hr3 hra (by omega);rw [hbn.out,plI_nil] at hK;replace hb0 := Lib.hid hb0;go_wp2_with (fail);(with_reducible refine hq.out.mono ?_);rintro e w4 ⟨l,A4,c4,rfl,hrl,hgl,hb4⟩;have hfin := Lib.hid (hK.out l hgl);clear hgl hK;go_wp2_with (fail);go_ret;exact ⟨l,A4,c4,rfl,hrl,hfin.out,hB3.trans (hb4.mono hB3.size)⟩
  ·have hnb : (0 : Int) < (b.length : Int) := by omega
   have hq := hD a b (by rw [hcb.out]; omega) Aa Ab ca cb w3 hr3 hra hrb hla hlb;replace hb0 := Lib.hid hb0;go_wp2_with (fail);(with_reducible refine hq.out.mono ?_);rintro e w4 ⟨v,rem,Ar,cr,rfl,hrr,hcr,hlr,hqr,hb4⟩;have hlt : rem.length < b.length := by omega
   have hK2 : Hid (∀ l,GcdI F.toDesc (plI F.toDesc b) (plI F.toDesc rem) l → GcdI F.toDesc (plI F.toDesc p) (plI F.toDesc q) l) := fun l h => hK.out l (GcdI.stepQ hqr h)
   have hrb4 := (hrb.below hb4).more hb4.size;have hb5 := hb3.trans (hb4.mono hb3.size);replace hcr := Lib.hid hcr;clear hqr hK hq x0 x1 x2;go_wp2_with (fail);go_roundw
   case rel => exact ⟨b,rem,Ab,cb,Ar,cr,rfl,rfl,hrb4,hrr,hcb,hcr,hlb,by omega,hK2,hb5⟩
   case measure => simp [lenV2]; omega
noncomputable def sqfB (F : FD) (p : List Int) : Bool := @decide (Cop (plI F.toDesc p) (plI F.toDesc p).D) (Classical.propDecidable _)
theorem sqfB_iff {F : FD} {p : List Int} : sqfB F p = true ↔ Cop (plI F.toDesc p) (plI F.toDesc p).D := by unfold sqfB; exact @decide_eq_true_iff _ (Classical.propDecidable _)
set_option maxRecDepth 100000 in
set_option maxHeartbeats 2000000 in
theorem Sqf19_any (F : FD) (p : List Int) (A A1 : Option Addr) (c c1 : Nat) (w : World) (hr : Rd w w.heap.size A (modL F.toDesc)) (hr1 : Rd w w.heap.size A1 p) (hl : p.length ≤ 1000) :
  Calls Tryz.prog 40 #[.agg #[.int .i64 F.p,.int .i64 F.m,.slice A F.mod.length c],.slice A1 p.length c1] w fun e w' => e = .returned (.bool (sqfB F p)) ∧ Below w.heap.size w w' := by
 have hbx0 := Lib.hid (Bx.new w F.toDesc A F.mod.length c 24);obtain ⟨Y,hY⟩ : ∃ Y,Y = w.alloc (.cells #[.int .i64 F.p,.int .i64 F.m,.slice A F.mod.length c] 24) := ⟨_,rfl⟩;rw [← hY] at hbx0;have hB : Below w.heap.size w Y := by rw [hY]; exact (Below.refl _ _).alloc (Nat.le_refl _) _
 have hYs : w.heap.size < Y.heap.size := by rw [hY]; simp
 have hrY := ((hr.below hB).more hB.size);have hr1Y := ((hr1.below hB).more hB.size);have hD := Lib.hid (Deriv5_any F p A A1 c c1 Y.drew hr1Y.drew (by omega));have hdl : (derI F.toDesc p).length ≤ 1000 := by have : (derI F.toDesc p).length ≤ p.length - 1 := by { unfold derI; rw [canL_length]; exact cdeg_le _ _ }; omega
 have hG := fun B1 d1 W h1 h2 h3 => Lib.hid (Gcd5_any F p (derI F.toDesc p) A A1 B1 c c1 d1 W h1 h2 h3 hl hdl)
 have hone : Hid (∀ l,GcdI F.toDesc (plI F.toDesc p) (plI F.toDesc (derI F.toDesc p)) l → ((l.length : Int) == 1) = sqfB F p) := fun l h => by
  rw [derI_pl] at h;rw [Bool.eq_iff_iff,beq_iff_eq,sqfB_iff,← h.one];omega
 have hwl := hYs;have hcc := Lib.hid hbx0.out.cells;replace hY := Lib.hid hY;clear hdl;go_enter Tryz.func40,Tryz.ntmps40;go_wp2_with (fail);rw [← hY.out];refine wp_region_held_drew (S := fun w' => w'.cell? ⟨w.heap.size,0,none⟩ = some (.int .i64 F.p) ∧ w'.cell? ⟨w.heap.size,1,none⟩ = some (.int .i64 F.m) ∧ w'.cell? ⟨w.heap.size,2,none⟩ = some (.slice A F.mod.length c)) (by kernel_rfl) (by (try dsimp only); exact hcc.out) (fun hHeld => ?_);refine tk 0 ?_; try simp only [pS]
 refine tk 1 ?_; try simp only [pS]
 refine tk 2 ?_; try simp only [pS]
 refine tk 3 ?_; try simp only [pS]
 refine rd 4 fun K hK => ?_
 go_simp;go_at_call 106;(with_reducible refine (hD).out.mono ?_);rintro e w1 ⟨Ad,cd,rfl,hrd,hx1⟩;have hb1 := (Below.refl Y.heap.size Y).drew.trans hx1;have hcc1 := Lib.hid (keep3 hb1 hYs hcc.out);have hG1 := hG Ad cd w1 ((hrY.below hb1).more hb1.size) ((hr1Y.below hb1).more hb1.size) hrd;go_wp2_with (fail);refine hK.out _ _ (by (try dsimp only); exact hcc1.out) (fun hHeld => ?_);clear hK K;try simp only [pS]
 refine rd 5 fun K hK => ?_
 go_simp;go_at_call 105;(with_reducible refine (hG1).out.mono ?_);rintro e w2 ⟨l,Al,cl,rfl,hrl,hgl,hb2⟩;have hb12 := hb1.trans (hb2.mono hb1.size);have hcc2 := Lib.hid (keep3 hb12 hYs hcc.out);have hv := hone.out l hgl;have hbf := Lib.hid (hB.trans (hb12.mono hB.size));go_wp2_with (fail);refine hK.out _ _ (by (try dsimp only); exact hcc2.out) (fun hHeld => ?_);clear hK K;try simp only [pS]
 refine tk 6 ?_; try simp only [pS]
 refine tk 7 ?_; try simp only [pS]
 refine tk 8 ?_; try simp only [pS]
 refine wpAnyH_done (by kernel_rfl) ?_ _;go_wp2_with (fail);go_ret;exact ⟨by first | rw [hv] | simp [hv],hbf.out⟩
end Go.Proofs.YtjdoneanohhkmaaGreat
