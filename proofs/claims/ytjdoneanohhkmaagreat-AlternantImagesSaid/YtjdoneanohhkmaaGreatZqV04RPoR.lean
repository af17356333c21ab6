/- Layer 5 of the program: trim, Canon, combine. The program's Roots: a range over a function. -/
import Derived.IntWalk
import Derived.Test.YtjdoneanohhkmaaGreatZqV04REmbL
import Derived.Test.YtjdoneanohhkmaaGreatZqV04RTowE
namespace Go.Proofs.YtjdoneanohhkmaaGreat
section
open Go.RowKit Cw
attribute [local go_sem] Oper.semAt_some

theorem wrap_pred {k k' : Nat} (h : k = k' + 1) (hk : k ≤ 1000000) : IntKind.i64.wrap ((k : Int) - 1) = (k' : Int) := by
 rw [IntWalk.i64_in _ (by omega)]; omega
def GivesR (l : List Int) (w : World) (e : Ending) (w' : World) : Prop :=
 ∃ A c,e = .returned (.slice A l.length c) ∧ Rd w' w'.heap.size A l ∧ l.length ≤ c ∧ c ≤ maxLen ∧ (∀ a,A = some a → w.heap.size ≤ a.block) ∧ Below w.heap.size w w'
theorem Rd.lst_take {w : World} {B n N : Nat} {A : Option Addr} {f : Nat → Int} (h : Rd w B A (lst n f)) (hN : N ≤ n) : Rd w B A (lst N f) := fun hp => by
 rw [lst_length] at hp;obtain ⟨b,off,e,hb,hc⟩ := h (by rw [lst_length]; omega);refine ⟨b,off,e,hb,fun j hj => ?_⟩;rw [lst_length] at hj;have := hc j (by rw [lst_length]; omega);rw [lst_get _ (by omega)] at this;rw [lst_get _ hj]; exact this

set_option maxHeartbeats 1000000 in
theorem gTrim_any (n : Nat) (f : Nat → Int) (A : Option Addr) (c : Nat) (w : World) (hr : Rd w w.heap.size A (lst n f)) (hn : n ≤ 1000000) (hc : n ≤ c) (_hc' : c ≤ maxLen) :
  Calls Tryz.prog 221 #[.slice A n c] w fun e w' => e = .returned (.slice A (cdeg f n) c) ∧ w = w' := by
 go_enter Tryz.func221,Tryz.ntmps221;go_wp2_with (fail);go_loop [0] (fun v => ∃ k : Nat,k ≤ n ∧ v = .slice A k c ∧ Hid (cdeg f n = cdeg f k)) (fun v => lenV v)
 case atStart => exact ⟨n,Nat.le_refl _,rfl,rfl⟩
 case round =>
  obtain ⟨k,hk,rfl,hd⟩ := hrel;rcases Nat.eq_zero_or_pos k with h0 | hpos
  ·subst h0;go_wp2_with (fail);go_ret;exact ⟨by rw [hd.out]; rfl,rfl⟩
  ·obtain ⟨k',hk'⟩ : ∃ k',k = k' + 1 := ⟨k - 1,by omega⟩;have hwr := wrap_pred hk' (by omega);obtain ⟨b,o,rfl,-,hcell⟩ := hr.at_ (by rw [lst_length]; omega : k' < (lst n f).length);rw [lst_get _ (by omega)] at hcell;have hk0 : (0 : Int) < (k : Int) := by omega
   have hj0 : (0 : Int) ≤ (k' : Int) := by omega
   have hj1 : (k' : Int) < (k : Int) := by omega
   have hj2 : (k' : Int) ≤ (c : Int) := by omega
   obtain ⟨y,hy⟩ : ∃ y,y = f k' := ⟨_,rfl⟩;rw [← hy] at hcell;by_cases hz : y = 0
   ·have hzb : (y == 0) = true := by rw [beq_iff_eq]; exact hz
    have hd2 : Hid (cdeg f n = cdeg f k') := by unfold Hid; rw [hd.out,hk',cdeg_yes (by rw [← hy]; exact hz)]
    replace hk' := Lib.hid hk';clear hz hy hd;go_wp2_with (fail);go_round
    case rel => exact ⟨k',by have := hk'.out; omega,rfl,hd2⟩
    case measure => simp [lenV]; have := hk'.out; omega
   ·have hzb : (y == 0) = false := by rw [beq_eq_false_iff_ne]; exact hz
    have hd2 : Hid (cdeg f n = k) := by unfold Hid; rw [hd.out,hk',cdeg_no (by rw [← hy]; exact hz)]
    replace hk' := Lib.hid hk';clear hz hy hd;go_wp2_with (fail);go_ret;exact ⟨by rw [hd2.out]; rfl,rfl⟩

set_option maxHeartbeats 2000000 in
theorem gCanonP_box (F : FD) (p : List Int) (A1 : Option Addr) (c1 g : Nat) (w : World) (hg : GF w w.heap.size g F) (hr1 : Rd w w.heap.size A1 p) (hl : p.length ≤ 70000) :
  Calls Tryz.prog 218 #[.pointer (some ⟨g,0,none⟩),.slice A1 p.length c1] w fun e w' => ∃ gb,e = .returned (.slice (some ⟨gb,0,none⟩) (canI F.toDesc p).length p.length) ∧ w.heap.size ≤ gb ∧ IB w' gb (lst p.length (cfI F.toDesc p)) ∧ Below w.heap.size w w' := by
 obtain ⟨n,hn⟩ : ∃ n,n = p.length := ⟨_,rfl⟩;have hmk := mk_ints n (by omega);obtain ⟨f,hf⟩ : ∃ f,f = cfI F.toDesc p := ⟨_,rfl⟩;have hfk : ∀ k,f k = if decide (0 ≤ p[k]?.getD 0 ∧ p[k]?.getD 0 < (F.q : Int)) = true then p[k]?.getD 0 else 0 := fun k => by
  rw [hf];unfold cfI cfR;by_cases h : 0 ≤ p[k]?.getD 0 ∧ p[k]?.getD 0 < (F.q : Int)
  ·rw [if_pos (decide_eq_true h)]; exact ci_eli_in h
  ·rw [if_neg (by rw [decide_eq_false h]; decide)];unfold eli;rw [if_neg h]; exact ci_zero
 have hcan : Hid (canI F.toDesc p = lst (cdeg f n) f) := by rw [hf,hn]; rfl
 have hT := fun A c W a b d => Lib.hid (gTrim_any n f A c W a (by omega) b d)
 obtain ⟨gb,hgb⟩ : ∃ gb,gb = w.heap.size := ⟨_,rfl⟩;obtain ⟨Y,hY⟩ : ∃ Y,Y = w.alloc (.cells (Array.replicate n (Value.int .i64 0)) 3) := ⟨_,rfl⟩;have hib : IB Y gb (upd n 0 f) := by rw [upd_zero,hY,hgb]; exact IB.newz w n
 have hbY : Below w.heap.size w Y := by rw [hY]; exact (Below.refl _ _).alloc (Nat.le_refl _) _
 have hgw : w.heap.size ≤ gb := Nat.le_of_eq hgb.symm;have hgw2 : gb ≤ w.heap.size := Nat.le_of_eq hgb;have hnp := Lib.hid hn;have hn7 : n ≤ 70000 := by omega
 rw [← hn];replace hY := Lib.hid hY;replace hgb := Lib.hid hgb;replace hf := Lib.hid hf;clear hn;go_enter Tryz.func218,Tryz.ntmps218;go_wp2_with (fail);rw [← hY.out,← hgb.out];go_loopw [13] (fun i wr => ∃ k : Nat,k ≤ n ∧ i = .int .i64 k ∧ IB wr gb (upd n k f) ∧ Below w.heap.size w wr) (fun i _ => n - (intOf i).toNat)
 case atStart => exact ⟨0,by omega,rfl,hib,hbY⟩
 case round =>
  obtain ⟨k,hk,rfl,hibk,hbw⟩ := hrel;obtain ⟨w3,rfl⟩ : ∃ w3 : World,w3 = wr := ⟨_,rfl⟩;clear hib hbY;by_cases hlt : k < n
  ·have hk0 : (0 : Int) ≤ (k : Int) := by omega
   have hk1 : (k : Int) < (n : Int) := by omega
   obtain ⟨b,o,rfl,hb,hc⟩ := hr1.at_ (by rw [← hnp.out]; exact hlt : k < p.length);have hd := (hbw.cell (p := ⟨b,o + k,none⟩) hb).trans hc;obtain ⟨y,hy⟩ : ∃ y,y = p[k]?.getD 0 := ⟨_,rfl⟩;have hfy := hfk k;rw [← hy] at hd hfy;have hI := gIs_any F y g w3 ((hg.below hbw).more hbw.size);have hkk : k < (upd n k f).length := by rw [upd_length]; exact hlt
   have hcW := hibk.cell hkk;have hfW := hibk.frozen k;have hset := hibk.set_ k (f k);rw [upd_set] at hset;have hbs : Below w.heap.size w (w3.setCell ⟨gb,k,none⟩ (.int .i64 (f k))) := hbw.setCell (p := ⟨gb,k,none⟩) hgw _;have hz0 : f k = 0 → IB w3 gb (upd n (k + 1) f) := fun e => by
    have h := upd_set n k f;have h2 : (upd n k f).set k (f k) = upd n k f := by
     rw [e];apply List.ext_getElem
     ·simp
     ·intro i h3 h4;rw [List.getElem_set];by_cases e2 : k = i
      ·rw [if_pos e2];have h5 := upd_get (n := n) (k := k) (i := i) f (by simpa [upd_length] using h4);rw [if_neg (by omega),List.getElem?_eq_getElem h4,Option.getD_some] at h5;exact h5.symm
      ·rw [if_neg e2]
    rw [← h,h2]; exact hibk
   replace hy := Lib.hid hy
   cases hde : decide (0 ≤ y ∧ y < (F.q : Int)) with
   | true =>
    rw [hde] at hI hfy;rw [if_pos rfl] at hfy;rw [hfy] at hset hbs;replace hI := Lib.hid hI;replace hset := Lib.hid hset;clear hc hde hfy hz0 hkk;go_wp2_with (fail);(with_reducible refine hI.out.mono ?_);rintro e w4 ⟨rfl,rfl⟩;go_wp2_with (fail);go_roundw
    case rel => exact ⟨k + 1,by omega,by go_num,hset.out,hbs⟩
    case measure => simp [intOf]; omega
   | false =>
    rw [hde] at hI hfy;rw [if_neg (by decide)] at hfy;have hib2 := Lib.hid (hz0 hfy);replace hI := Lib.hid hI;clear hc hde hfy hz0 hkk hset hbs hcW hfW;go_wp2_with (fail);(with_reducible refine hI.out.mono ?_);rintro e w4 ⟨rfl,rfl⟩;go_wp2_with (fail);go_roundw
    case rel => exact ⟨k + 1,by omega,by go_num,hib2.out,hbw⟩
    case measure => simp [intOf]; omega
  ·obtain rfl : k = n := by omega
   rw [upd_full] at hibk;have hT3 := hT (some ⟨gb,0,none⟩) k w3 hibk.rd (Nat.le_refl _) (by unfold maxLen; omega);have hle := cdeg_le f k;go_wp2_with (fail);(with_reducible refine hT3.out.mono ?_);rintro e w4 ⟨rfl,rfl⟩;go_wp2_with (fail);go_ret;exact ⟨gb,by rw [hcan.out,lst_length]; rfl,hgw,by rw [← hf.out]; exact hibk,hbw⟩
theorem gCanonP_any (F : FD) (p : List Int) (A1 : Option Addr) (c1 g : Nat) (w : World) (hg : GF w w.heap.size g F) (hr1 : Rd w w.heap.size A1 p) (hl : p.length ≤ 70000) :
  Calls Tryz.prog 218 #[.pointer (some ⟨g,0,none⟩),.slice A1 p.length c1] w (GivesR (canI F.toDesc p) w) :=
 (gCanonP_box F p A1 c1 g w hg hr1 hl).mono fun e w' ⟨gb,he,h1,h2,h3⟩ => by
  have hle := canI_le F.toDesc p;have hc : canI F.toDesc p = lst (canI F.toDesc p).length (cfI F.toDesc p) := by unfold canI; rw [canL_length]; rfl
  refine ⟨some ⟨gb,0,none⟩,p.length,he,?_,hle,by unfold maxLen; omega,fun a e => by cases e; exact h1,h3⟩;rw [hc]; exact h2.rd.lst_take hle
end
section
open Go.RowKit Go.Shelf Cw
attribute [local go_sem] Oper.semAt_some

set_option maxRecDepth 100000 in
set_option maxHeartbeats 4000000 in
theorem pRoots_any (D : FD) (p : List Int) (A1 : Option Addr) (c1 g : Nat) (w : World) (hg : GF w w.heap.size g D) (hr1 : Rd w w.heap.size A1 p) (hl : p.length ≤ 70000) (hne : canI D.toDesc p ≠ []) :
  Calls Tryz.prog 214 #[.pointer (some ⟨g,0,none⟩),.slice A1 p.length c1] w fun e w' =>
   ∃ v,e = .returned (.tuple #[v,.int .i64 0]) ∧ Own w' w.heap.size v (rootF D (canI D.toDesc p) (upI D.q)) ∧ Below w.heap.size w w' := by
 have hC := fun W a b => gCanonP_any D p A1 c1 g W a b hl
 obtain ⟨cp,hcp⟩ : ∃ cp,cp = canI D.toDesc p := ⟨_,rfl⟩;rw [← hcp] at hC hne ⊢;unfold GivesR at hC;have hcl : cp.length ≤ 70000 := by rw [hcp]; exact Nat.le_trans (canI_le _ _) hl
 have hc0 : ((cp.length : Int) == 0) = false := by
  rw [beq_eq_false_iff_ne]; intro e;exact hne (List.eq_nil_of_length_eq_zero (by omega))
 replace hcp := Lib.hid hcp;have hB : Below w.heap.size w (w.alloc (.cells #[.pointer (some ⟨g,0,none⟩)] 105)) := (Below.refl _ _).alloc (Nat.le_refl _) _;have hC2 := Lib.hid (hC _ ((hg.below hB).more hB.size) ((hr1.below hB).more hB.size));clear hC hne;refine (callsIn_wide (n := 3)).1 ?_;refine callsIn_of_wp_marks Tryz.func214 rfl trivial ?_ rfl;simp only [Tryz.ntmps214,List.size_toArray,List.length_cons,List.length_nil,Nat.reduceAdd,Nat.reduceSub,Array.replicate_succ,Array.replicate_zero,List.push_toArray,List.append_toArray,List.nil_append,List.cons_append];have bG0 := (Boxed.new w 105 (.pointer (some ⟨g,0,none⟩)));have hmx : Tryz.prog.follows .mixedOrders = true := by kernel_rfl
 obtain ⟨i0,hi,hz0,hz1,hz2⟩ := info_parts infoInt
 gi_wp2_with (first
  | (refine ⟨trivial,?_⟩; gi_at_call 218; refine (callsIn_wide.2 hC2.out).mono ?_; rintro e w1 ⟨A,c,rfl,hrc,hcc,hcm,hAn,hb1⟩; have hs1 := hb1.size; simp only [World.size_alloc] at hs1; have bG1 : Boxed w1 w.heap.size 105 (.pointer (some ⟨g,0,none⟩)) := (hb1.block _ (by simp)).trans bG0; have cG1 := bG1.cell; have hlt1 : w.heap.size < w1.heap.size := by omega)
  | (refine ⟨trivial,?_⟩; gi_at_call 248; refine (elements_in Fence.wide _ trivial rfl g _).mono ?_; rintro e w2 ⟨rfl,rfl⟩))
 have hgl : g < w.heap.size := hg.lt;obtain ⟨W2,hW2⟩ : ∃ W2,W2 = w1.alloc (.cells #[.slice A cp.length c] 22) := ⟨_,rfl⟩;have hs2 : W2.heap.size = w1.heap.size + 1 := by rw [hW2]; simp
 have hbW2 : Below w1.heap.size w1 W2 := by rw [hW2]; exact (Below.refl _ _).alloc (Nat.le_refl _) _
 have bC2 : Boxed W2 w1.heap.size 22 (.slice A cp.length c) := by rw [hW2]; exact Boxed.new w1 _ _
 have bG2 : Boxed W2 w.heap.size 105 (.pointer (some ⟨g,0,none⟩)) := (hbW2.block _ hlt1).trans bG1;have hW1 : Below w.heap.size w w1 := hB.trans (hb1.mono hB.size);have hW02 : Below w.heap.size w W2 := hW1.trans (hbW2.mono hW1.size);have hrc2 : Rd W2 W2.heap.size A cp := (hrc.below hbW2).more hbW2.size;have hg2 : GF W2 w.heap.size g D := hg.below hW02;rw [← hW2];rw [← hs2];replace hW2 := Lib.hid hW2;have hs2' := Lib.hid hs2;have hw1W : w1.heap.size < W2.heap.size := by omega
 have hwW : w.heap.size < W2.heap.size := by omega
 clear hs2;clear hrc hcc hAn hb1 bG1 cG1 hW1 hB hC2 bG0 hbW2;have bO := Boxed.new W2 22 (.slice none 0 0);have bN := Boxed.new (W2.alloc (.cells #[.slice none 0 0] 22)) 105 (.pointer (some ⟨g,0,none⟩));rw [World.size_alloc] at bN;have hB0 : Below W2.heap.size W2 ((W2.alloc (.cells #[.slice none 0 0] 22)).alloc (.cells #[.pointer (some ⟨g,0,none⟩)] 105)) := ((Below.refl _ W2).alloc (Nat.le_refl _) _).alloc (by simp) _;have hle : w.heap.size ≤ W2.heap.size := hW02.size;refine wpIn_rangeFunc_ownG rfl (by omega) (gf := 260) (lb := #[.pointer (some ⟨W2.heap.size + 1,0,none⟩)]) rfl trivial (enters_of Tryz.func260 (by kernel_rfl) rfl)
  (elements_stops Fence.wide _ trivial rfl (by omega) (W2.heap.size + 1) W2.heap.size g D _ (by simp) (by simp; omega) (by omega) bN.cell ((hB0.cell (p := ⟨g,3,none⟩) (by simp; omega)).trans hg2.c3)) belowK_t (belowK_b (by simp; omega)) (Below.refl _ _) (fun _ => rfl)
  (fun pre W => (∃ v,Boxed W W2.heap.size 22 v ∧ W.ownsRow W2.heap.size 3 1 v (rootF D cp pre).length ((rootF D cp pre).map (Value.int .i64)) ∧ True) ∧ Below W2.heap.size W2 W)
  (fun _ _ _ => False)
  (OwnFrom.and (Own.from (holdsRow_own W2.heap.size W2.heap.size 22 3 1 (fun pre => (rootF D cp pre).length) (fun pre => (rootF D cp pre).map (Value.int .i64)) (fun _ _ => True)) _) (ownFrom_below (Nat.le_refl _) (by simp; omega)))
  (fun _ _ _ _ _ hs _ _ => hs)
  ⟨⟨_,bO.alloc _,World.ownsRow_nil _ _ _ _,trivial⟩,hB0⟩
  (fun x => { tmps := #[.pointer (some ⟨g,0,none⟩),.slice A1 p.length c1,.pointer (some ⟨w.heap.size,0,none⟩),undef,.slice none 0 0,.int .i64 0,.pointer (some ⟨w1.heap.size,0,none⟩),.pointer (some ⟨W2.heap.size,0,none⟩),.int .i64 x,.pointer (some ⟨g,0,none⟩),.slice A1 p.length c1,.slice A cp.length c,.slice A cp.length c,.int .i64 (cp.length : Nat),.bool false,.pointer (some ⟨g,0,none⟩),.func (.func 260) #[] #[.pointer (some ⟨W2.heap.size + 1,0,none⟩)],.int .i64 x,undef,undef,undef,undef,undef,undef,undef,undef,undef,undef],defers := [] }) ?assign ?body ?done ?stop
 case assign =>
  intro l x W K hK
  gi_wp2
  exact hK
 case body =>
  rintro l pre x W ⟨⟨v,hv,hrow,-⟩,hBW⟩ hlt;have hc := hv.cell;have hpl : (rootF D cp pre).length ≤ pre.length := List.length_filter_le _ _;have hq3 := D.q256;have cG2 : W.cell? ⟨w.heap.size,0,none⟩ = some (.pointer (some ⟨g,0,none⟩)) := (hBW.cell (p := ⟨w.heap.size,0,none⟩) hwW).trans bG2.cell;have cC2 : W.cell? ⟨w1.heap.size,0,none⟩ = some (.slice A cp.length c) := (hBW.cell (p := ⟨w1.heap.size,0,none⟩) hw1W).trans bC2.cell;have hgW : GF W W.heap.size g D := ((hg2.more hle).below hBW).more hBW.size;have hE := pEval_any D cp x A c g W hgW ((hrc2.below hBW).more hBW.size) (by unfold maxLen; omega);obtain ⟨y,hy⟩ : ∃ y,y = ci (pevI D.toDesc cp (eli D.toDesc x)) := ⟨_,rfl⟩;rw [← hy] at hE;have hE2 : Hid (Calls Tryz.prog 170 #[.pointer (some ⟨g,0,none⟩),.slice A cp.length c,.int .i64 x] W fun e w' => w'.cell? ⟨W2.heap.size,0,none⟩ = some v ∧ e = .returned (.int .i64 y) ∧ Hid (Below W.heap.size W w')) :=
   Lib.hid (hE.mono (by rintro e w' ⟨rfl,h3⟩; exact ⟨(h3.cell (p := ⟨W2.heap.size,0,none⟩) hv.lt).trans hc,rfl,Lib.hid h3⟩))
  clear hE hc;by_cases hfx : pevI D.toDesc cp (eli D.toDesc x) = 0
  ·have hx := Lib.hid (rootF_hit D cp pre hfx);have hz : (y == 0) = true := by rw [beq_iff_eq,hy,hfx,ci_zero]
   clear hfx hy
   gi_wp2_with (first | (refine ⟨trivial,?_⟩; gi_at_call 170; refine (CallsIn.inRound l (callsIn_wide.2 hE2.out)).mono ?_; rintro e w3 ⟨cO3,rfl,hb3⟩; have hb4 : Below W.heap.size W w3 := hb3.out; have hv3 : Boxed w3 W2.heap.size 22 v := (hb4.block _ hv.lt).trans hv; have hrow3 : w3.ownsRow W2.heap.size 3 1 v (rootF D cp pre).length ((rootF D cp pre).map (Value.int .i64)) := World.ownsRow.kept hrow (below_grown hb4 (Nat.le_refl _)) (by cases v.ownBlock <;> simp); have hko3 : KeepsOthers W w3 := KeepsOthers.of_grownBy (below_grown hb4 (Nat.le_refl _)) (fun j o ej => by cases ej); have hb5 : Below W2.heap.size W w3 := hb4.mono hBW.size; have hsz3 : W2.heap.size ≤ w3.heap.size := Nat.le_trans hBW.size hb4.size) | (gi_at_builtin; refine wpListIn_append_own _ rfl _ _ 22 rfl W2.heap.size 3 i0 (.int .i64 0) 1 8 Tryz.underlying22 hi hz0 hz1 hz2 rfl (by decide) _ _ _ rfl (hrow3.alloc _) ⟨w3.heap.size,0,none⟩ 1 1 [.int .i64 x] rfl rfl (cell_one_new _ _ _) (by simp [Value.oneCell']) (by simp only [maxLen]; omega) (by omega) (by simp; omega) ?_; intro v' w4 hown' hgrow _; obtain ⟨g',cap',rfl⟩ := ownsRow_succ hown'; obtain ⟨hv1,hv2,hr2,hk2,hb2⟩ := hv3.appended (by decide) hrow3 hsz3 (Nat.le_refl _) hown' hgrow; have hc1 := hv1.cell; have hf1 := hv1.frozen))
   exact ⟨(hko3.trans hk2).from _,hb5.trans hb2,⟨_,hv2,by rw [hx.out]; simpa using hr2,trivial⟩,hBW.trans (hb5.trans hb2)⟩
  ·have hx := Lib.hid (rootF_miss D cp pre hfx);have hz : (y == 0) = false := by rw [beq_eq_false_iff_ne,hy]; exact fun e => hfx (ci_eq_zero.1 e)
   clear hfx hy
   gi_wp2_with ((refine ⟨trivial,?_⟩; gi_at_call 170; refine (CallsIn.inRound l (callsIn_wide.2 hE2.out)).mono ?_; rintro e w3 ⟨cO3,rfl,hb3⟩; have hb4 : Below W.heap.size W w3 := hb3.out; have hv3 : Boxed w3 W2.heap.size 22 v := (hb4.block _ hv.lt).trans hv; have hrow3 : w3.ownsRow W2.heap.size 3 1 v (rootF D cp pre).length ((rootF D cp pre).map (Value.int .i64)) := World.ownsRow.kept hrow (below_grown hb4 (Nat.le_refl _)) (by cases v.ownBlock <;> simp); have hko3 : KeepsOthers W w3 := KeepsOthers.of_grownBy (below_grown hb4 (Nat.le_refl _)) (fun j o ej => by cases ej); have hb5 : Below W2.heap.size W w3 := hb4.mono hBW.size; have hsz3 : W2.heap.size ≤ w3.heap.size := Nat.le_trans hBW.size hb4.size))
   exact ⟨hko3.from _,hb5,⟨v,hv3,by rw [hx.out]; exact hrow3,trivial⟩,hBW.trans hb5⟩
 case done =>
  rintro D' ys W hD rfl ⟨⟨v,hv,hrow,-⟩,hBW⟩ hK;have hc := hv.cell
  gi_wp2
  refine ⟨by simp,.inl ⟨_,_,rfl,run_takeDeferred hK,?_⟩⟩;have key : ∀ W' : World,W'.ownsRow W2.heap.size 3 1 v (rootF D cp (upI D.q)).length ((rootF D cp (upI D.q)).map (Value.int .i64)) → Own W' w.heap.size v (rootF D cp (upI D.q)) := fun W' hfin => by
   exact ⟨hfin.1,hfin.2.imp id fun ⟨g',cap,cur,h1,h2,r⟩ => ⟨g',cap,cur,h1,Nat.le_trans hle h2,r⟩⟩
  refine ⟨.tuple #[v,.int .i64 0],by simp [results,Tryz.results214,go_sem],v,rfl,?_,?_⟩
  ·exact key _ (ownsRow_putObj hrow _ hK rfl)
  ·exact hW02.trans ((hBW.trans (belowK_b (w := W2) (Nat.le_refl _) W D' _ _ (by simp at hD; omega) hK rfl rfl)).mono hle)
 case stop =>
  rintro D' c pre W _ _ h _;exact h.elim
end
end Go.Proofs.YtjdoneanohhkmaaGreat
