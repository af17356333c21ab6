/- Layer 39 of the program: codeword. -/
import Derived.Test.YtjdoneanohhkmaaGreatZrU07RBndR
import Derived.Test.YtjdoneanohhkmaaGreatZrU07RGaoG
import Derived.Test.YtjdoneanohhkmaaGreatZrU07RAppZ
import Derived.Test.YtjdoneanohhkmaaGreatZrU07RTk
namespace Go.Proofs.YtjdoneanohhkmaaGreat
open Go.RowKit Cw
open Cw.CField (inv)
attribute [local go_sem] Oper.semAt_some

def CwPost (F : FD) (kn : Nat) (pts mul wl er : List Int) (w : World) (e : Ending) (w' : World) : Prop :=
 Below w.heap.size w w' ∧ ((∃ msg A c,DecOK F.toDesc kn pts mul wl er msg ∧ e = .returned (.tuple #[.slice A pts.length c,.int .i64 0]) ∧ Rd w' w'.heap.size A (wordL F.toDesc pts mul msg) ∧ (∀ a,A = some a → w.heap.size ≤ a.block) ∧ ∃ g,A = some ⟨g,0,none⟩ ∧ IB w' g (wordL F.toDesc pts mul msg)) ∨
  (DecNo F.toDesc kn pts mul wl er ∧ e = .returned (.tuple #[.slice none 0 0,.int .i64 12])))
section
variable {F : FD} {kn : Nat} {pts mul wl er : List Int} {w w' : World}
theorem CwPost.ok (hB : Below w.heap.size w w') {msg : List Int} (h : DecOK F.toDesc kn pts mul wl er msg) (A : Option Addr) (c : Nat) (hr : Rd w' w'.heap.size A (wordL F.toDesc pts mul msg)) (hlo : ∀ a,A = some a → w.heap.size ≤ a.block) (hib : ∃ g,A = some ⟨g,0,none⟩ ∧ IB w' g (wordL F.toDesc pts mul msg)) : CwPost F kn pts mul wl er w (.returned (.tuple #[.slice A pts.length c,.int .i64 0])) w' := ⟨hB,.inl ⟨msg,A,c,h,rfl,hr,hlo,hib⟩⟩
theorem CwPost.no (hB : Below w.heap.size w w') (h : DecNo F.toDesc kn pts mul wl er) : CwPost F kn pts mul wl er w (.returned (.tuple #[.slice none 0 0,.int .i64 12])) w' := ⟨hB,.inr ⟨h,rfl⟩⟩
end

theorem gEnc_ok (F : FD) (kn : Nat) (pts mul : List Int) (hz : gchkD F.toDesc kn pts mul = 0) (hgood : Good F.p F.m (modL F.toDesc)) (msg : List Int) (hm : msg.length = kn) (he : elB F.toDesc msg = true) (A A1 A2 A3 : Option Addr) (c c1 c2 c3 : Nat) (w : World)
  (hr : Rd w w.heap.size A (modL F.toDesc)) (hr1 : Rd w w.heap.size A1 pts) (hr2 : Rd w w.heap.size A2 mul) (h1 : pts.length ≤ c1) (h1' : c1 ≤ maxLen) (hr3 : Rd w w.heap.size A3 msg) :
  Calls Tryz.prog 231 #[.agg #[.int .i64 F.p,.int .i64 F.m,.slice A F.mod.length c,.int .i64 (kn : Int),.slice A1 pts.length c1,.slice A2 mul.length c2],.slice A3 kn c3] w fun e w' => ∃ A',e = .returned (.tuple #[.slice A' pts.length pts.length,.int .i64 0]) ∧ Rd w' w'.heap.size A' (wordL F.toDesc pts mul msg) ∧ (∀ a,A' = some a → w.heap.size ≤ a.block) ∧ (∃ g,A' = some ⟨g,0,none⟩ ∧ IB w' g (wordL F.toDesc pts mul msg)) ∧ Below w.heap.size w w' := by
 obtain ⟨hp1,hp64,hlen,-,-,-,-,-,hKn⟩ := gchkD_zero hz;have h0 : encErr F.toDesc kn pts mul msg = 0 := by unfold encErr; rw [if_neg (fun h => h hz)]; exact (show elErr F.toDesc msg kn 3 = 0 by unfold elErr; rw [if_neg (by omega),if_neg (by rw [he]; decide)])
 have h := gEnc_D2 F.toDesc kn pts mul A A1 A2 c c1 c2 msg A3 c3 w hr hgood hr1 hr2 h1 h1' (by unfold maxLen; omega) hr3 (by unfold maxLen; omega);rw [hm] at h;refine h.mono fun e w' hp => ?_
 obtain ⟨hb,⟨hne,-⟩ | ⟨-,A',e1,hrd,hlo,hib⟩⟩ := hp
 ·exact absurd h0 hne
 ·rw [wordL_length] at e1;exact ⟨A',e1,hrd,hlo,hib,hb⟩
set_option maxRecDepth 100000 in
set_option maxHeartbeats 16000000 in
theorem gCodeword_any (F : FD) (kn : Nat) (pts mul wl er : List Int) (hz : gchkD F.toDesc kn pts mul = 0) (hgood : Good F.p F.m (modL F.toDesc)) (hwl : wl.length = pts.length) (hel : elB F.toDesc wl = true) (hrg : ∀ x ∈ er,0 ≤ x ∧ x < (pts.length : Int)) (hnd : er.Nodup)
  (A A1 A2 Aw : Option Addr) (c c1 c2 cw gb g : Nat) (w : World) (hg : GF w w.heap.size g F) (hr : Rd w w.heap.size A (modL F.toDesc)) (hr1 : Rd w w.heap.size A1 pts) (hr2 : Rd w w.heap.size A2 mul) (h1 : pts.length ≤ c1) (h1' : c1 ≤ maxLen) (hrw : Rd w w.heap.size Aw wl) (hbb : BB w gb pts.length (fun i => decide ((i : Int) ∈ er))) :
  Calls Tryz.prog 186 #[.pointer (some ⟨g,0,none⟩),.agg #[.int .i64 F.p,.int .i64 F.m,.slice A F.mod.length c,.int .i64 (kn : Int),.slice A1 pts.length c1,.slice A2 mul.length c2],.slice Aw wl.length cw,.slice (some ⟨gb,0,none⟩) pts.length pts.length] w (CwPost F kn pts mul wl er w) := by
 obtain ⟨hp1,hp64,hlen,hpe,hme,htw,hm0,hK0,hKn⟩ := gchkD_zero hz;have hcount := idxL_count hrg hnd;have hinj := xsP_inj (er := er) hz;have hmne : Hid (∀ i,i < pts.length → eli F.toDesc (mul[i]?.getD 0) ≠ 0) := fun i hi => eli_ne (elB_iff.1 hme i (by omega)) (fun e => hm0 (e ▸ mem_get (by omega)))
 have hdok : Hid (∀ m,GaoOK F.toDesc (idxL er pts.length).length kn (xsP F pts er) (ysP F pts mul wl er) m → DecOK F.toDesc kn pts mul wl er (padL m kn)) := fun m h => dec_ok hz hwl hel hrg hnd h
 have hdno : Hid (GaoNo F.toDesc (idxL er pts.length).length kn (xsP F pts er) (ysP F pts mul wl er) → DecNo F.toDesc kn pts mul wl er) := fun h => dec_no hz hwl hel hrg hnd h
 have hdn2 : Hid ((idxL er pts.length).length < kn → DecNo F.toDesc kn pts mul wl er) := fun h m _ => by omega
 have hEnc := fun msg (k1 : msg.length = kn) (k2 : elB F.toDesc msg = true) A3 c3 W a b d e => gEnc_ok F kn pts mul hz hgood msg k1 k2 A A1 A2 A3 c c1 c2 c3 W a b d h1 h1' e
 obtain ⟨ys,hys⟩ : ∃ ys,ys = ysA F pts.length mul wl := ⟨_,rfl⟩;have hyk : Hid (∀ k,k < pts.length → ci (eli F.toDesc (wl[k]?.getD 0) * inv (eli F.toDesc (mul[k]?.getD 0))) = ys[k]?.getD 0) := fun k hk => by
  rw [hys]; unfold ysA; rw [lst_get _ hk]; rfl
 have hysP : Hid (ysP F pts mul wl er = fun i => eli F.toDesc ((selL ys er pts.length)[i]?.getD 0)) := by rw [hys]; rfl
 have hxsP : Hid (xsP F pts er = fun i => eli F.toDesc ((selL pts er pts.length)[i]?.getD 0)) := rfl;obtain ⟨s,hs⟩ : ∃ s,s = w.heap.size := ⟨_,rfl⟩;obtain ⟨Z,hZ⟩ : ∃ Z,Z = w.alloc (.cells #[.int .i64 F.p,.int .i64 F.m,.slice A F.mod.length c,.int .i64 (kn : Int),.slice A1 pts.length c1,.slice A2 mul.length c2] 72) := ⟨_,rfl⟩;have hB : Below w.heap.size w Z := by rw [hZ]; exact (Below.refl _ _).alloc (Nat.le_refl _) _
 have hZs : s < Z.heap.size := by rw [hZ,hs]; simp
 have k0 : Hid (Z.cell? ⟨s,0,none⟩ = some (.int .i64 F.p) ∧ Z.cell? ⟨s,1,none⟩ = some (.int .i64 F.m) ∧ Z.cell? ⟨s,2,none⟩ = some (.slice A F.mod.length c) ∧ Z.cell? ⟨s,3,none⟩ = some (.int .i64 (kn : Int)) ∧ Z.cell? ⟨s,4,none⟩ = some (.slice A1 pts.length c1) ∧ Z.cell? ⟨s,5,none⟩ = some (.slice A2 mul.length c2)) := by rw [hZ,hs]; exact alloc6 w (.int .i64 F.p) (.int .i64 F.m) (.slice A F.mod.length c) (.int .i64 (kn : Int)) (.slice A1 pts.length c1) (.slice A2 mul.length c2) 72
 have hgZ := (hg.below hB).more hB.size;have hrZ := (hr.below hB).more hB.size;have hr1Z := (hr1.below hB).more hB.size;have hr2Z := (hr2.below hB).more hB.size;have hrwZ := (hrw.below hB).more hB.size;have hbbZ := Lib.hid (hbb.below hB hbb.lt);have hgbZ : gb < Z.heap.size := Nat.lt_of_lt_of_le hbb.lt hB.size;have ho0 := Own.nil Z Z.heap.size;have hZZ : Below Z.heap.size Z Z := Below.refl _ _;have hlen2 := Lib.hid hlen;have hwl2 := Lib.hid hwl;replace hZ := Lib.hid hZ;replace hys := Lib.hid hys;replace hcount := Lib.hid hcount;replace hinj := Lib.hid hinj;replace hEnc := fun msg h1 h2 A3 c3 W a b d e => Lib.hid (hEnc msg h1 h2 A3 c3 W a b d e)
 clear hz hlen hwl hel hrg hnd hpe hme htw hm0 hgood hg hr hr1 hr2 hrw hbb;go_enter Tryz.func186,Tryz.ntmps186;obtain ⟨q0,q1,q2,q3,q4,q5⟩ := k0.out;go_wp2_with (fail);rw [← hZ.out];simp only [← hs];have hsw : w.heap.size ≤ s := Nat.le_of_eq hs.symm;replace hs := Lib.hid hs;clear q0 q1 q2 q3 q4 q5;obtain ⟨L,hL⟩ : ∃ L,L = Z.heap.size := ⟨_,rfl⟩;rw [← hL] at ho0 hZZ hZs hgZ hrZ hr1Z hr2Z hrwZ hgbZ;have hLZ : L ≤ Z.heap.size := Nat.le_of_eq hL;replace hL := Lib.hid hL;go_loopw [21,10,11] (fun i va vb wr => ∃ (k : Nat) (A3 A4 : Option Addr) (c3 c4 : Nat),k ≤ pts.length ∧ i = .int .i64 k ∧ va = .slice A3 (selL pts er k).length c3 ∧ vb = .slice A4 (selL ys er k).length c4 ∧ Hid (Own wr L (.slice A3 (selL pts er k).length c3) (selL pts er k)) ∧ Hid (Own wr L (.slice A4 (selL ys er k).length c4) (selL ys er k)) ∧ Hid (Dis (.slice A3 (selL pts er k).length c3) (.slice A4 (selL ys er k).length c4)) ∧ Below L Z wr) (fun i _ _ _ => pts.length - (intOf i).toNat)
 case atStart => exact ⟨0,none,none,0,0,by omega,rfl,rfl,rfl,ho0,ho0,Dis.nil,hZZ⟩
 case round =>
  obtain ⟨w3,rfl⟩ : ∃ w3 : World,w3 = wr := ⟨_,rfl⟩;obtain ⟨k,A3,A4,c3,c4,hk,rfl,rfl,rfl,hx,hy,hdis,hbw⟩ := hrel;clear ho0 hZZ;have kk3 : Hid (w3.cell? ⟨s,0,none⟩ = some (.int .i64 F.p) ∧ w3.cell? ⟨s,1,none⟩ = some (.int .i64 F.m) ∧ w3.cell? ⟨s,2,none⟩ = some (.slice A F.mod.length c) ∧ w3.cell? ⟨s,3,none⟩ = some (.int .i64 (kn : Int)) ∧ w3.cell? ⟨s,4,none⟩ = some (.slice A1 pts.length c1) ∧ w3.cell? ⟨s,5,none⟩ = some (.slice A2 mul.length c2)) := keep6 hbw hZs k0.out;have hsz3 : L ≤ w3.heap.size := Nat.le_trans hLZ hbw.size;by_cases hlt : k < pts.length
  ·have hk0 : (0 : Int) ≤ (k : Int) := by omega
   have hk1 : (k : Int) < (pts.length : Int) := by omega
   have hk2 : (k : Int) < (wl.length : Int) := by have := hwl2.out; omega
   have hk3 : (k : Int) < (mul.length : Int) := by have := hlen2.out; omega
   have hcs := (hbbZ.out.below hbw hgbZ).cell hlt;obtain ⟨b1,o1,rfl,hb1,hc1⟩ := hr1Z.at_ hlt;have hd1 := (hbw.cell (p := ⟨b1,o1 + k,none⟩) hb1).trans hc1;obtain ⟨x,hxe⟩ : ∃ x,x = pts[k]?.getD 0 := ⟨_,rfl⟩;rw [← hxe] at hd1;replace hxe := Lib.hid hxe;clear hc1;by_cases hin : (k : Int) ∈ er
   ·rw [decide_eq_true hin] at hcs;have e1 : Hid (selL pts er k = selL pts er (k + 1)) := (selL_yes hin).symm;have e2 : Hid (selL ys er k = selL ys er (k + 1)) := (selL_yes hin).symm;clear hin;rw [e1.out] at hx hdis ⊢;rw [e2.out] at hy hdis ⊢;go_wp2_with (fail);go_roundw
    case rel => exact ⟨k + 1,A3,A4,c3,c4,by omega,by go_num,rfl,rfl,hx,hy,hdis,hbw⟩
    case measure => simp [intOf]; omega
   rw [decide_eq_false hin] at hcs;have e1 : Hid (selL pts er (k + 1) = selL pts er k ++ [x]) := by unfold Hid; rw [selL_no hin,hxe.out]
   have e2 : Hid (selL ys er (k + 1) = selL ys er k ++ [ys[k]?.getD 0]) := selL_no hin;obtain ⟨b2,o2,rfl,hb2,hc2⟩ := hr2Z.at_ (by rw [hlen2.out]; exact hlt : k < mul.length);obtain ⟨bw,ow,rfl,hbw',hcw⟩ := hrwZ.at_ (by rw [hwl2.out]; exact hlt : k < wl.length);have hd2 := (hbw.cell (p := ⟨b2,o2 + k,none⟩) hb2).trans hc2;have hdw := (hbw.cell (p := ⟨bw,ow + k,none⟩) hbw').trans hcw;have hD := gDiv_ok F (wl[k]?.getD 0) (mul[k]?.getD 0) g w3.drew ((hgZ.below hbw).more hsz3).drew (hmne.out k hlt);rw [hyk.out k hlt] at hD;obtain ⟨u,hu⟩ : ∃ u,u = wl[k]?.getD 0 := ⟨_,rfl⟩;obtain ⟨m,hm⟩ : ∃ m,m = mul[k]?.getD 0 := ⟨_,rfl⟩;obtain ⟨y,hye⟩ : ∃ y,y = ys[k]?.getD 0 := ⟨_,rfl⟩;rw [← hu] at hdw hD;rw [← hm] at hd2 hD;rw [← hye] at hD e2;replace hD := Lib.hid hD;replace hu := Lib.hid hu;replace hm := Lib.hid hm;replace hye := Lib.hid hye;have hcc := Lib.hid (show _ ∧ _ ∧ _ from ⟨kk3.out.2.2.2.2.2,hd2,hdw⟩);have hb23 : b2 < w3.heap.size := Nat.lt_of_lt_of_le hb2 hsz3;have hbw3 : bw < w3.heap.size := Nat.lt_of_lt_of_le hbw' hsz3;have hs3 : s < w3.heap.size := Nat.lt_of_lt_of_le hZs hsz3;clear hin hc2 hcw hd2 hdw;go_wp2_with (fail);clear hcs hd1;refine wp_region_held_drew (S := fun w' => w'.cell? ⟨s,5,none⟩ = some (.slice (some ⟨b2,o2,none⟩) mul.length c2) ∧ w'.cell? ⟨b2,o2 + k,none⟩ = some (.int .i64 m) ∧ w'.cell? ⟨bw,ow + k,none⟩ = some (.int .i64 u)) (by kernel_rfl) (by (try dsimp only); exact hcc.out) (fun hHeld => ?_);refine tk 0 ?_; try simp only [pS]
   refine tk 1 ?_; try simp only [pS]
   refine tk 2 ?_; try simp only [pS]
   refine tk 3 ?_; try simp only [pS]
   refine tk 4 ?_; try simp only [pS]
   refine tk 5 ?_; try simp only [pS]
   refine tk 6 ?_; try simp only [pS]
   refine tk 7 ?_; try simp only [pS]
   refine tk 8 ?_; try simp only [pS]
   refine tk 9 ?_; try simp only [pS]
   refine rd 10 fun K hK => ?_
   go_simp;go_at_call 229;(with_reducible refine (hD).out.mono ?_);rintro e w4 ⟨rfl,hb4⟩;go_wp2_with (fail);refine hK.out _ _ (by (try dsimp only); exact ⟨(hb4.cell (p := ⟨s,5,none⟩) hs3).trans hcc.out.1,(hb4.cell (p := ⟨b2,o2 + k,none⟩) hb23).trans hcc.out.2.1,(hb4.cell (p := ⟨bw,ow + k,none⟩) hbw3).trans hcc.out.2.2⟩) (fun hHeld => ?_);clear hK K;try simp only [pS]
   refine tk 11 ?_; try simp only [pS]
   refine tk 12 ?_; try simp only [pS]
   refine tk 13 ?_; try simp only [pS]
   refine tk 14 ?_; try simp only [pS]
   refine tk 15 ?_; try simp only [pS]
   refine wpAnyH_done (by kernel_rfl) ?_ _;have hb34 : Below w3.heap.size w3 w4 := (Below.refl _ w3).drew.trans hb4;have hsz4 : L ≤ w4.heap.size := Nat.le_trans hsz3 hb34.size;have hx4 := hx.out.below hb34 (Nat.le_refl _);have hy4 := hy.out.below hb34 (Nat.le_refl _);have hl1 : (selL pts er k).length ≤ 1000000 := by rw [selL_length]; have := idxL_le er k; omega
   have hl2 : (selL ys er k).length ≤ 1000000 := by rw [selL_length]; have := idxL_le er k; omega
   have hB4 : Below L Z w4 := hbw.trans (hb34.mono hsz3);clear hx hy hcc;go_wp2_with (first | (at_builtin; refine wpList_app1 rfl (.tmp 45) (.tmp 47) rfl L _ _ _ hx4 rfl rfl rfl hl1 hsz4 ?_; intro v5 w5 ho5 hb5 hg5 hv5; have hy5 := hy4.kept hg5 hdis.out.symm.ne; have hd5 := Dis.step hdis.out hy4.lt hv5; have hsz5 := Nat.le_trans hsz4 hb5.size) | (at_builtin; refine wpList_app1 rfl (.tmp 49) (.tmp 51) rfl L _ _ _ hy5 rfl rfl rfl hl2 hsz5 ?_; intro v6 w6 ho6 hb6 hg6 hv6; have hx6 := ho5.kept hg6 hd5.ne; have hd6 := (Dis.step hd5.symm ho5.lt hv6).symm));obtain ⟨A5,n5,e5,-,-,-⟩ := hx6.form;obtain ⟨A6,n6,e6,-,-,-⟩ := ho6.form;rw [← e1.out] at hx6 e5;rw [← e2.out] at ho6 e6;subst e5 e6;go_roundw
   case rel => exact ⟨k + 1,A5,A6,n5,n6,by omega,by go_num,rfl,rfl,hx6,ho6,hd6,(hB4.trans hb5).trans hb6⟩
   case measure => simp [intOf]; omega
  ·obtain rfl : k = pts.length := by omega
   obtain ⟨N,hN⟩ : ∃ N,N = (idxL er pts.length).length := ⟨_,rfl⟩;have hlx : (selL pts er pts.length).length = N := by rw [selL_length,hN]
   have hly : (selL ys er pts.length).length = N := by rw [selL_length,hN]
   have hrx : Rd w3 w3.heap.size A3 (selL pts er pts.length) := by obtain ⟨A',c',e',-,h',-⟩ := hx.out.form; cases e'; exact h'
   have hry : Rd w3 w3.heap.size A4 (selL ys er pts.length) := by obtain ⟨A',c',e',-,h',-⟩ := hy.out.form; cases e'; exact h'
   have hNle := idxL_le er pts.length;rw [← hN] at hdok hdno hdn2 hinj hNle;have hB3 : Below w.heap.size w w3 := hB.trans (hbw.mono (Nat.le_trans (Nat.le_trans hsw (Nat.le_of_lt hZs)) (Nat.le_refl L)));have hs3 : s < w3.heap.size := Nat.lt_of_lt_of_le hZs hsz3;have hg3 := (hgZ.below hbw).more hsz3;rw [hlx,hly];clear hx hy hdis hlt;obtain ⟨q0,q1,q2,q3,q4,q5⟩ := kk3.out;by_cases hNk : N < kn
   ·have hNi : (N : Int) < (kn : Int) := by omega
    have hno := Lib.hid (hdn2.out hNk);replace hN := Lib.hid hN;replace hlx := Lib.hid hlx;replace hly := Lib.hid hly;clear hNk hNle;go_wp2_with (fail);go_ret2;exact CwPost.no hB3 hno.out
   have hNi : ¬ (N : Int) < (kn : Int) := by omega
   have hG := gGao_any F N kn (selL pts er pts.length) (selL ys er pts.length) hlx hly (by omega) (by omega) (by have h := hinj.out; rw [hxsP.out] at h; exact h) A3 A4 c3 c4 g w3 hg3 hrx hry;rw [← hxsP.out,← hysP.out] at hG;replace hG := Lib.hid hG;replace hN := Lib.hid hN;replace hlx := Lib.hid hlx;replace hly := Lib.hid hly;replace hNk := Lib.hid hNk;replace hNle := Lib.hid hNle;go_wp2_with (fail);(with_reducible refine hG.out.mono ?_);rintro e w5 ⟨hb5,⟨m,Am,cm,rfl,hok,hom⟩ | ⟨rfl,hno⟩⟩;rotate_left
   ·have hnn := Lib.hid (hdno.out hno);clear hno q0 q1 q2 q3 q4 q5;go_wp2_with (fail);go_ret2;exact CwPost.no (hB3.trans (hb5.mono hB3.size)) hnn.out
   have hB5 := hB3.trans (hb5.mono hB3.size);have hb35 := hbw.trans (hb5.mono hsz3);have kk5 : Hid (w5.cell? ⟨s,0,none⟩ = some (.int .i64 F.p) ∧ w5.cell? ⟨s,1,none⟩ = some (.int .i64 F.m) ∧ w5.cell? ⟨s,2,none⟩ = some (.slice A F.mod.length c) ∧ w5.cell? ⟨s,3,none⟩ = some (.int .i64 (kn : Int)) ∧ w5.cell? ⟨s,4,none⟩ = some (.slice A1 pts.length c1) ∧ w5.cell? ⟨s,5,none⟩ = some (.slice A2 mul.length c2)) := keep6 hb5 hs3 kk3.out;have hs5 : s < w5.heap.size := Nat.lt_of_lt_of_le hs3 hb5.size;have hml := hok.2.1;have hme := elB_can hok.1;have hdec := Lib.hid (hdok.out m hok);have hpl := padL_length hml;have hom5 := hom.drew;have hwm : IntKind.i64.wrap ((kn : Int) - (m.length : Int)) = ((kn - m.length : Nat) : Int) := by rw [IntWalk.i64_in _ (by omega)]; omega
   have hkl : m.length + (kn - m.length) ≤ 1000000 := by omega
   have hsz5 : w3.heap.size ≤ w5.drew.heap.size := hb5.size;have hEn := fun A7 c7 W a b d e => hEnc (padL m kn) hpl (elB_padL hme) A7 c7 W a b d e
   have hpl2 : Hid ((m ++ List.replicate (kn - m.length) (0 : Int)).length = kn) := hpl;replace hpl := Lib.hid hpl;replace hok := Lib.hid hok;replace hme := Lib.hid hme;clear q0 q1 q2 q3 q4 q5 hEnc hG;have hk35 : w.heap.size ≤ w3.heap.size := hB3.size;have hrA := fun (W : World) (h : Below w3.heap.size w5 W) => (show Below w3.heap.size w3 W from hb5.trans h)
   obtain ⟨q0,q1,q2,q3,q4,q5⟩ := kk5.out;go_wp2_with (fail);clear q0 q1 q2 q3 q4 q5;refine wp_region_held_drew (S := fun w' => w'.cell? ⟨s,0,none⟩ = some (.int .i64 F.p) ∧ w'.cell? ⟨s,1,none⟩ = some (.int .i64 F.m) ∧ w'.cell? ⟨s,2,none⟩ = some (.slice A F.mod.length c) ∧ w'.cell? ⟨s,3,none⟩ = some (.int .i64 (kn : Int)) ∧ w'.cell? ⟨s,4,none⟩ = some (.slice A1 pts.length c1) ∧ w'.cell? ⟨s,5,none⟩ = some (.slice A2 mul.length c2)) (by kernel_rfl) (by (try dsimp only); exact kk5.out) (fun hHeld => ?_);refine tk 1 ?_; try simp only [pS]
   refine tk 2 ?_; try simp only [pS]
   refine tk 3 ?_; try simp only [pS]
   refine tk 4 ?_; try simp only [pS]
   refine tk 5 ?_; try simp only [pS]
   refine tk 6 ?_; try simp only [pS]
   refine wpAnyH_ready (rs := [0,7]) (by kernel_rfl) (by simp) ?_;refine AllReadyH.cons (o := ⟨_,_,_,_,_,_⟩) rfl (fun K hK => ?_) ?_
   ·go_simp;refine hK.out _ _ (by (try dsimp only); first | exact kk5.out | exact kk7.out) (fun hHeld => ?_);clear hK K;try simp only [pS]
    refine rd 7 fun K hK => ?_
    refine step_appZ rfl (.tmp 72) (.tmp 77) rfl w3.heap.size _ m (kn - m.length) hom5 (by rfl) (by rfl) hkl hsz5 ?_;intro v7 w7 ho7 hb7 hg7 hv7;have hb57 := (Below.refl w3.heap.size w5).drew.trans hb7;have kk7 : Hid (w7.cell? ⟨s,0,none⟩ = some (.int .i64 F.p) ∧ w7.cell? ⟨s,1,none⟩ = some (.int .i64 F.m) ∧ w7.cell? ⟨s,2,none⟩ = some (.slice A F.mod.length c) ∧ w7.cell? ⟨s,3,none⟩ = some (.int .i64 (kn : Int)) ∧ w7.cell? ⟨s,4,none⟩ = some (.slice A1 pts.length c1) ∧ w7.cell? ⟨s,5,none⟩ = some (.slice A2 mul.length c2)) := keep6 hb57 hs3 kk5.out;obtain ⟨A7,c7,e7,-,hr7,-⟩ := ho7.form;have e8 : v7 = .slice A7 kn c7 := by rw [e7,hpl2.out]
    clear e7;subst e8;have hbL7 := hbw.trans ((hrA w7 hb57).mono hsz3);have hL7 := Nat.le_trans hLZ hbL7.size;have hE7 := hEn A7 c7 w7 ((hrZ.below hbL7).more hL7) ((hr1Z.below hbL7).more hL7) ((hr2Z.below hbL7).more hL7) hr7;refine hK.out _ _ (by (try dsimp only); exact kk7.out) (fun hHeld => ?_);clear hK K;try simp only [pS]
    refine rd 8 fun K hK => ?_
    go_simp;go_at_call 231;(with_reducible refine (hE7).out.mono ?_);rintro e w8 ⟨A8,rfl,hr8,hlo8,hib8,hb8⟩;go_wp2_with (fail);refine hK.out _ _ (by (try dsimp only); exact keep6 hb8 (Nat.lt_of_lt_of_le hs3 (Nat.le_trans hb5.size hb57.size)) kk7.out) (fun hHeld => ?_);clear hK K;try simp only [pS]
    refine tk 9 ?_; try simp only [pS]
    refine tk 10 ?_; try simp only [pS]
    refine tk 11 ?_; try simp only [pS]
    refine tk 12 ?_; try simp only [pS]
    refine wpAnyH_done (by kernel_rfl) ?_ _;have hB8 : Below w.heap.size w w8 := hB3.trans (((hrA w7 hb57).trans (hb8.mono (Nat.le_trans hb5.size hb57.size))).mono hk35);go_wp2_with (fail);go_ret2;exact CwPost.ok hB8 hdec.out A8 pts.length hr8 (fun a e => Nat.le_trans (Nat.le_trans hk35 (Nat.le_trans hb5.size hb57.size)) (hlo8 a e)) hib8
   refine AllReadyH.cons (o := ⟨_,_,_,_,_,_⟩) rfl (fun K hK => ?_) AllReadyH.nil;refine step_appZ rfl (.tmp 72) (.tmp 77) rfl w3.heap.size _ m (kn - m.length) hom5 (by rfl) (by rfl) hkl hsz5 ?_;intro v7 w7 ho7 hb7 hg7 hv7;have hb57 := (Below.refl w3.heap.size w5).drew.trans hb7;have kk7 : Hid (w7.cell? ⟨s,0,none⟩ = some (.int .i64 F.p) ∧ w7.cell? ⟨s,1,none⟩ = some (.int .i64 F.m) ∧ w7.cell? ⟨s,2,none⟩ = some (.slice A F.mod.length c) ∧ w7.cell? ⟨s,3,none⟩ = some (.int .i64 (kn : Int)) ∧ w7.cell? ⟨s,4,none⟩ = some (.slice A1 pts.length c1) ∧ w7.cell? ⟨s,5,none⟩ = some (.slice A2 mul.length c2)) := keep6 hb57 hs3 kk5.out;obtain ⟨A7,c7,e7,-,hr7,-⟩ := ho7.form;have e8 : v7 = .slice A7 kn c7 := by rw [e7,hpl2.out]
   clear e7;subst e8;have hbL7 := hbw.trans ((hrA w7 hb57).mono hsz3);have hL7 := Nat.le_trans hLZ hbL7.size;have hE7 := hEn A7 c7 w7 ((hrZ.below hbL7).more hL7) ((hr1Z.below hbL7).more hL7) ((hr2Z.below hbL7).more hL7) hr7;refine hK.out _ _ (by (try dsimp only); exact kk7.out) (fun hHeld => ?_);clear hK K;try simp only [pS]
   refine rd 0 fun K hK => ?_
   go_simp;refine hK.out _ _ (by (try dsimp only); first | exact kk5.out | exact kk7.out) (fun hHeld => ?_);clear hK K;try simp only [pS]
   refine rd 8 fun K hK => ?_
   go_simp;go_at_call 231;(with_reducible refine (hE7).out.mono ?_);rintro e w8 ⟨A8,rfl,hr8,hlo8,hib8,hb8⟩;go_wp2_with (fail);refine hK.out _ _ (by (try dsimp only); exact keep6 hb8 (Nat.lt_of_lt_of_le hs3 (Nat.le_trans hb5.size hb57.size)) kk7.out) (fun hHeld => ?_);clear hK K;try simp only [pS]
   refine tk 9 ?_; try simp only [pS]
   refine tk 10 ?_; try simp only [pS]
   refine tk 11 ?_; try simp only [pS]
   refine tk 12 ?_; try simp only [pS]
   refine wpAnyH_done (by kernel_rfl) ?_ _;have hB8 : Below w.heap.size w w8 := hB3.trans (((hrA w7 hb57).trans (hb8.mono (Nat.le_trans hb5.size hb57.size))).mono hk35);go_wp2_with (fail);go_ret2;exact CwPost.ok hB8 hdec.out A8 pts.length hr8 (fun a e => Nat.le_trans (Nat.le_trans hk35 (Nat.le_trans hb5.size hb57.size)) (hlo8 a e)) hib8
end Go.Proofs.YtjdoneanohhkmaaGreat
