/- Layer 39 of the program: GRS. -/
import Derived.Test.YtjdoneanohhkmaaGreatZrU07RBndC
import Derived.Test.YtjdoneanohhkmaaGreatZrU07RGrsU
import Derived.Test.YtjdoneanohhkmaaGreatZrU07RTk
namespace Go.Proofs.YtjdoneanohhkmaaGreat
open Go.RowKit Cw
open Cw.CField (inv)
attribute [local go_sem] Oper.semAt_some

def decErr (D : Desc) (K : Int) (pts mul wl er : List Int) : Int := if gchkD D K pts mul ≠ 0 then gchkD D K pts mul else recErr D wl pts.length er
def GrsPost (D : Desc) (K : Int) (pts mul wl er : List Int) (w : World) (e : Ending) (w' : World) : Prop :=
 Below w.heap.size w w' ∧ ((decErr D K pts mul wl er ≠ 0 ∧ e = .returned (.tuple #[.agg #[.slice none 0 0,.slice none 0 0],.int .i64 (decErr D K pts mul wl er)])) ∨
  (decErr D K pts mul wl er = 0 ∧ DecNo D K.toNat pts mul wl er ∧ e = .returned (.tuple #[.agg #[.slice none 0 0,.slice none 0 0],.int .i64 12])) ∨
  (decErr D K pts mul wl er = 0 ∧ ∃ msg Ac cc Ae ce,DecOK D K.toNat pts mul wl er msg ∧ e = .returned (.tuple #[.agg #[.slice Ac pts.length cc,.slice Ae (errL (wordL D pts mul msg) wl er pts.length).length ce],.int .i64 0]) ∧ Rd w' w'.heap.size Ac (wordL D pts mul msg) ∧ Rd w' w'.heap.size Ae (errL (wordL D pts mul msg) wl er pts.length) ∧ (∀ a,Ac = some a → w.heap.size ≤ a.block) ∧ (∀ a,Ae = some a → w.heap.size ≤ a.block)))
section
variable {D : Desc} {K : Int} {pts mul wl er : List Int} {w w' : World}
theorem GrsPost.err (hB : Below w.heap.size w w') {E : Int} (h : decErr D K pts mul wl er = E) (h0 : E ≠ 0) : GrsPost D K pts mul wl er w (.returned (.tuple #[.agg #[.slice none 0 0,.slice none 0 0],.int .i64 E])) w' := ⟨hB,.inl ⟨by rw [h]; exact h0,by rw [h]⟩⟩
theorem GrsPost.no (hB : Below w.heap.size w w') (h : decErr D K pts mul wl er = 0) (hn : DecNo D K.toNat pts mul wl er) : GrsPost D K pts mul wl er w (.returned (.tuple #[.agg #[.slice none 0 0,.slice none 0 0],.int .i64 12])) w' := ⟨hB,.inr (.inl ⟨h,hn,rfl⟩)⟩
theorem GrsPost.ok (hB : Below w.heap.size w w') (h : decErr D K pts mul wl er = 0) {msg : List Int} (hm : DecOK D K.toNat pts mul wl er msg) (Ac : Option Addr) (cc : Nat) (Ae : Option Addr) (ce : Nat) (h1 : Rd w' w'.heap.size Ac (wordL D pts mul msg)) (h2 : Rd w' w'.heap.size Ae (errL (wordL D pts mul msg) wl er pts.length)) (h3 : ∀ a,Ac = some a → w.heap.size ≤ a.block) (h4 : ∀ a,Ae = some a → w.heap.size ≤ a.block) :
  GrsPost D K pts mul wl er w (.returned (.tuple #[.agg #[.slice Ac pts.length cc,.slice Ae (errL (wordL D pts mul msg) wl er pts.length).length ce],.int .i64 0])) w' := ⟨hB,.inr (.inr ⟨h,msg,Ac,cc,Ae,ce,hm,rfl,h1,h2,h3,h4⟩)⟩
end

theorem ResPost.in {n : Nat} {c wl er : List Int} {rad : Int} {Ac : Option Addr} {cc : Nat} {w : World} {e : Ending} {w' : World} (h : (¬ rad < ((errL c wl er n).length : Int) ∧ ∃ Ae ce,e = .returned (.tuple #[.agg #[.slice Ac n cc,.slice Ae (errL c wl er n).length ce],.int .i64 0]) ∧ Rd w' w'.heap.size Ae (errL c wl er n) ∧ ∀ a,Ae = some a → w.heap.size ≤ a.block) ∨
  (rad < ((errL c wl er n).length : Int) ∧ e = .returned (.tuple #[.agg #[.slice none 0 0,.slice none 0 0],.int .i64 12]))) (hf : ¬ rad < ((errL c wl er n).length : Int)) : ∃ Ae ce,e = .returned (.tuple #[.agg #[.slice Ac n cc,.slice Ae (errL c wl er n).length ce],.int .i64 0]) ∧ Rd w' w'.heap.size Ae (errL c wl er n) ∧ ∀ a,Ae = some a → w.heap.size ≤ a.block := by
 rcases h with ⟨-,h⟩ | ⟨h,-⟩
 ·exact h
 ·exact absurd h hf
theorem CwPost.form {F : FD} {kn : Nat} {pts mul wl er : List Int} {w : World} {e : Ending} {w' : World} (h : CwPost F kn pts mul wl er w e w') : Below w.heap.size w w' ∧ ∃ v ec,e = .returned (.tuple #[v,.int .i64 ec]) ∧
  ((ec = 0 ∧ ∃ msg A c,v = .slice A pts.length c ∧ DecOK F.toDesc kn pts mul wl er msg ∧ Rd w' w'.heap.size A (wordL F.toDesc pts mul msg) ∧ ∀ a,A = some a → w.heap.size ≤ a.block) ∨ (ec = 12 ∧ DecNo F.toDesc kn pts mul wl er)) := by
 obtain ⟨hb,⟨msg,A,c,h1,rfl,h2,h3,-⟩ | ⟨h1,rfl⟩⟩ := h
 ·exact ⟨hb,_,_,rfl,.inl ⟨rfl,msg,A,c,rfl,h1,h2,h3⟩⟩
 ·exact ⟨hb,_,_,rfl,.inr ⟨rfl,h1⟩⟩

set_option maxHeartbeats 4000000 in
theorem gGRS_bad (P M K : Int) (ml pts mul : List Int) (A A1 A2 : Option Addr) (c c1 c2 : Nat) (wl er : List Int) (Aw Ae : Option Addr) (cw ce : Nat) (w : World) (hP : I64 P) (hM : I64 M) (hl : ml.length ≤ maxLen) (hr : Rd w w.heap.size A ml) (hb : ¬ Good P M ml) :
  Calls Tryz.prog 116 #[.agg #[.int .i64 P,.int .i64 M,.slice A ml.length c,.int .i64 K,.slice A1 pts.length c1,.slice A2 mul.length c2],.slice Aw wl.length cw,.slice Ae er.length ce] w fun e w' => e = .returned (.tuple #[.agg #[.slice none 0 0,.slice none 0 0],.int .i64 1]) ∧ Below w.heap.size w w' := by
 have hN := fun W h => Lib.hid (gCheck_bad P M K ml pts mul A A1 A2 c c1 c2 W hP hM hl h hb)
 obtain ⟨s,hs⟩ : ∃ s,s = w.heap.size := ⟨_,rfl⟩;obtain ⟨Z,hZ⟩ : ∃ Z,Z = (w.alloc (.cells #[.int .i64 P,.int .i64 M,.slice A ml.length c,.int .i64 K,.slice A1 pts.length c1,.slice A2 mul.length c2] 72)).alloc (.cells #[.slice none 0 0,.slice none 0 0] 90) := ⟨_,rfl⟩;have hB : Below w.heap.size w Z := by rw [hZ]; exact ((Below.refl _ _).alloc (Nat.le_refl _) _).alloc (by simp) _
 have k0 : Z.cell? ⟨s,0,none⟩ = some (.int .i64 P) ∧ Z.cell? ⟨s,1,none⟩ = some (.int .i64 M) ∧ Z.cell? ⟨s,2,none⟩ = some (.slice A ml.length c) ∧ Z.cell? ⟨s,3,none⟩ = some (.int .i64 K) ∧ Z.cell? ⟨s,4,none⟩ = some (.slice A1 pts.length c1) ∧ Z.cell? ⟨s,5,none⟩ = some (.slice A2 mul.length c2) := by rw [hZ,hs]; simp [go_sem]
 have d0 : Duo Z (s + 1) (.slice none 0 0) (.slice none 0 0) := by
  rw [hZ,hs];have h := Duo.new (w.alloc (.cells #[.int .i64 P,.int .i64 M,.slice A ml.length c,.int .i64 K,.slice A1 pts.length c1,.slice A2 mul.length c2] 72)) (.slice none 0 0) (.slice none 0 0) 90;rw [World.size_alloc] at h; exact h
 have hZs : s + 1 < Z.heap.size := by rw [hZ,hs]; simp
 have hsw : w.heap.size ≤ s + 1 := by omega
 have hN2 := hN Z ((hr.below hB).more hB.size);replace hZ := Lib.hid hZ;replace d0 := Lib.hid d0;clear hP hM hl hb hN;go_enter Tryz.func116,Tryz.ntmps116;obtain ⟨q0,q1,q2,q3,q4,q5⟩ := k0;go_wp2_with (fail);rw [← hZ.out];simp only [← hs];replace hs := Lib.hid hs;go_wp2_with (fail);(with_reducible refine hN2.out.mono ?_);rintro e w1 ⟨rfl,hb1⟩;obtain ⟨a0,a1,f0,f1⟩ := d0.out.keep hb1 hZs;have hBs := fun u0 u1 => (hB.trans (hb1.mono hB.size)).trans ((setTwo (w := w1) (b := s + 1) u0 u1).mono hsw)
 clear q0 q1 q2 q3 q4 q5;go_wp2_with (fail);refine bodyPost_ret (v := .tuple #[.agg #[.slice none 0 0,.slice none 0 0],.int .i64 1]) (by simp [results,Tryz.results116,go_sem,a0,a1]) rfl ⟨rfl,hBs _ _⟩

set_option maxRecDepth 100000 in
set_option maxHeartbeats 16000000 in
theorem gGRS_D (D : Desc) (K : Int) (pts mul : List Int) (A A1 A2 : Option Addr) (c c1 c2 : Nat) (wl er : List Int) (Aw Ae : Option Addr) (cw ce : Nat) (w : World) (hr : Rd w w.heap.size A (modL D)) (hg : Good D.p D.m (modL D)) (hr1 : Rd w w.heap.size A1 pts) (hr2 : Rd w w.heap.size A2 mul) (h1 : pts.length ≤ c1) (h1' : c1 ≤ maxLen) (h2 : mul.length ≤ maxLen) (hrw : Rd w w.heap.size Aw wl) (hre : Rd w w.heap.size Ae er) (hwl : wl.length ≤ maxLen) (hel : er.length ≤ 1000000) :
  Calls Tryz.prog 116 #[.agg #[.int .i64 D.p,.int .i64 D.m,.slice A D.mod.length c,.int .i64 K,.slice A1 pts.length c1,.slice A2 mul.length c2],.slice Aw wl.length cw,.slice Ae er.length ce] w (GrsPost D K pts mul wl er w) := by
 have hCk := fun W a b d => Lib.hid (gCheck_D D K pts mul A A1 A2 c c1 c2 W a hg b d h1 h1' h2)
 have hNw := fun W a => Lib.hid (New_good D A c W a hg)
 obtain ⟨s,hs⟩ : ∃ s,s = w.heap.size := ⟨_,rfl⟩;obtain ⟨Z,hZ⟩ : ∃ Z,Z = (w.alloc (.cells #[.int .i64 D.p,.int .i64 D.m,.slice A D.mod.length c,.int .i64 K,.slice A1 pts.length c1,.slice A2 mul.length c2] 72)).alloc (.cells #[.slice none 0 0,.slice none 0 0] 90) := ⟨_,rfl⟩;have hB : Below w.heap.size w Z := by rw [hZ]; exact ((Below.refl _ _).alloc (Nat.le_refl _) _).alloc (by simp) _
 have k0 : Z.cell? ⟨s,0,none⟩ = some (.int .i64 D.p) ∧ Z.cell? ⟨s,1,none⟩ = some (.int .i64 D.m) ∧ Z.cell? ⟨s,2,none⟩ = some (.slice A D.mod.length c) ∧ Z.cell? ⟨s,3,none⟩ = some (.int .i64 K) ∧ Z.cell? ⟨s,4,none⟩ = some (.slice A1 pts.length c1) ∧ Z.cell? ⟨s,5,none⟩ = some (.slice A2 mul.length c2) := by rw [hZ,hs]; simp [go_sem]
 have d0 : Duo Z (s + 1) (.slice none 0 0) (.slice none 0 0) := by
  rw [hZ,hs];have h := Duo.new (w.alloc (.cells #[.int .i64 D.p,.int .i64 D.m,.slice A D.mod.length c,.int .i64 K,.slice A1 pts.length c1,.slice A2 mul.length c2] 72)) (.slice none 0 0) (.slice none 0 0) 90;rw [World.size_alloc] at h; exact h
 have hZs : s + 1 < Z.heap.size := by rw [hZ,hs]; simp
 have hsw : w.heap.size ≤ s + 1 := by omega
 have hC1 := hCk Z ((hr.below hB).more hB.size) ((hr1.below hB).more hB.size) ((hr2.below hB).more hB.size);have hgg := Lib.hid hg;replace hZ := Lib.hid hZ;replace d0 := Lib.hid d0;replace k0 := Lib.hid k0;clear hCk hg;go_enter Tryz.func116,Tryz.ntmps116;obtain ⟨q0,q1,q2,q3,q4,q5⟩ := k0.out;go_wp2_with (fail);rw [← hZ.out];simp only [← hs];replace hs := Lib.hid hs;go_wp2_with (fail);(with_reducible refine hC1.out.mono ?_);rintro e w1 ⟨rfl,hb1⟩;have hB1 := hB.trans (hb1.mono hB.size);have hs1 : s + 1 < w1.heap.size := Nat.lt_of_lt_of_le hZs hb1.size;have kk1 : Hid (w1.cell? ⟨s,0,none⟩ = some (.int .i64 D.p) ∧ w1.cell? ⟨s,1,none⟩ = some (.int .i64 D.m) ∧ w1.cell? ⟨s,2,none⟩ = some (.slice A D.mod.length c) ∧ w1.cell? ⟨s,3,none⟩ = some (.int .i64 K) ∧ w1.cell? ⟨s,4,none⟩ = some (.slice A1 pts.length c1) ∧ w1.cell? ⟨s,5,none⟩ = some (.slice A2 mul.length c2)) := keep6 hb1 (Nat.lt_of_succ_lt hZs) k0.out;have d1 := Lib.hid (d0.out.keep hb1 hZs);clear q0 q1 q2 q3 q4 q5;by_cases hz : gchkD D K pts mul = 0;rotate_left
 ·have hzb : (gchkD D K pts mul != 0) = true := by rw [bne_iff_ne]; exact hz
  have hE : Hid (decErr D K pts mul wl er = gchkD D K pts mul) := if_pos hz;obtain ⟨a0,a1,f0,f1⟩ := d1.out;have hBs := fun u0 u1 => hB1.trans ((setTwo (w := w1) (b := s + 1) u0 u1).mono hsw)
  have hz2 := Lib.hid hz;clear hz;go_wp2_with (fail);refine bodyPost_ret (v := .tuple #[.agg #[.slice none 0 0,.slice none 0 0],.int .i64 (gchkD D K pts mul)]) (by simp [results,Tryz.results116,go_sem,a0,a1]) rfl (GrsPost.err (hBs _ _) hE.out hz2.out)
 rw [hz];obtain ⟨hp1,hp64,hlen,-,-,-,-,hK0,hKn⟩ := gchkD_zero hz;obtain ⟨kn,rfl⟩ : ∃ kn : Nat,K = kn := ⟨K.toNat,by omega⟩;replace hlen := Lib.hid hlen;have hE0 : Hid (decErr D kn pts mul wl er = recErr D wl pts.length er) := if_neg (fun h => h hz);have hNw1 := hNw w1 ((hr.below hB1).more hB1.size);obtain ⟨q0,q1,q2,q3,q4,q5⟩ := kk1.out;replace hz := Lib.hid hz;clear hNw;go_wp2_with (fail);(with_reducible refine hNw1.out.mono ?_);rintro e w2 ⟨g,F,rfl,rfl,hgl,hgf,hb2⟩;have hB2 := hB1.trans (hb2.mono hB1.size);have hs2 : s + 1 < w2.heap.size := Nat.lt_of_lt_of_le hs1 hb2.size;have kk2 : Hid (w2.cell? ⟨s,0,none⟩ = some (.int .i64 F.p) ∧ w2.cell? ⟨s,1,none⟩ = some (.int .i64 F.m) ∧ w2.cell? ⟨s,2,none⟩ = some (.slice A F.mod.length c) ∧ w2.cell? ⟨s,3,none⟩ = some (.int .i64 (kn : Int)) ∧ w2.cell? ⟨s,4,none⟩ = some (.slice A1 pts.length c1) ∧ w2.cell? ⟨s,5,none⟩ = some (.slice A2 mul.length c2)) := keep6 hb2 (Nat.lt_of_succ_lt hs1) kk1.out;have d2 := Lib.hid (d1.out.keep hb2 hs1);have hWd := gWord_any F wl er pts.length hp64 Aw Ae cw ce g w2 hgf ((hrw.below hB2).more hB2.size) ((hre.below hB2).more hB2.size) hwl hel;clear q0 q1 q2 q3 q4 q5;obtain ⟨q0,q1,q2,q3,q4,q5⟩ := kk2.out;replace hWd := Lib.hid hWd;go_wp2_with (fail);(with_reducible refine hWd.out.mono ?_);rintro e w3 ⟨rfl,hb3⟩;have hB3 := hB2.trans (hb3.mono hB2.size);have hs3 : s + 1 < w3.heap.size := Nat.lt_of_lt_of_le hs2 hb3.size;have kk3 : Hid (w3.cell? ⟨s,0,none⟩ = some (.int .i64 F.p) ∧ w3.cell? ⟨s,1,none⟩ = some (.int .i64 F.m) ∧ w3.cell? ⟨s,2,none⟩ = some (.slice A F.mod.length c) ∧ w3.cell? ⟨s,3,none⟩ = some (.int .i64 (kn : Int)) ∧ w3.cell? ⟨s,4,none⟩ = some (.slice A1 pts.length c1) ∧ w3.cell? ⟨s,5,none⟩ = some (.slice A2 mul.length c2)) := keep6 hb3 (Nat.lt_of_succ_lt hs2) kk2.out;have d3 := Lib.hid (d2.out.keep hb3 hs2);clear q0 q1 q2 q3 q4 q5;by_cases hzr : recErr F.toDesc wl pts.length er = 0;rotate_left
 ·have hzb : (recErr F.toDesc wl pts.length er != 0) = true := by rw [bne_iff_ne]; exact hzr
  obtain ⟨a0,a1,f0,f1⟩ := d3.out;have hBs := fun u0 u1 => hB3.trans ((setTwo (w := w3) (b := s + 1) u0 u1).mono hsw)
  have hz2 := Lib.hid hzr;clear hzr;go_wp2_with (fail);refine bodyPost_ret (v := .tuple #[.agg #[.slice none 0 0,.slice none 0 0],.int .i64 (recErr F.toDesc wl pts.length er)]) (by simp [results,Tryz.results116,go_sem,a0,a1]) rfl (GrsPost.err (hBs _ _) hE0.out hz2.out)
 rw [hzr];have hE : Hid (decErr F.toDesc kn pts mul wl er = 0) := hE0.out.trans hzr;obtain ⟨hwn,helw,hrg,hnd⟩ := recErr_zero hzr;have hMk := fun W a => gMarks_any er pts.length hp64 hrg Ae ce W a hel
 have hCw := fun gb W a b d e f h => (gCodeword_any F kn pts mul wl er hz.out hgg.out hwn helw hrg hnd A A1 A2 Aw c c1 c2 cw gb g W a b d e h1 h1' f h).mono fun _ _ hp => hp.form
 have hRs := fun msg Ac cc gb W a b d => gResult_any pts.length (wordL F.toDesc pts mul msg) wl er (radI ((pts.length : Int) - (kn : Int) + 1) (er.length : Int)) hp64 (wordL_length _ _ _ _) hwn Ac Aw cc cw gb W a b d
 have hRd := fun W => gRadius_any ((pts.length : Int) - (kn : Int) + 1) (er.length : Int) W (by unfold I64; omega) (by unfold I64; omega)
 rw [hwn] at hCw;rw [hwn];have hw1 : IntKind.i64.wrap ((pts.length : Int) - (kn : Int)) = (pts.length : Int) - (kn : Int) := IntWalk.i64_in _ (by omega);have hw2 : IntKind.i64.wrap ((pts.length : Int) - (kn : Int) + 1) = (pts.length : Int) - (kn : Int) + 1 := IntWalk.i64_in _ (by omega);have hfit : Hid (∀ msg,DecOK F.toDesc kn pts mul wl er msg → ¬ radI ((pts.length : Int) - (kn : Int) + 1) (er.length : Int) < ((errL (wordL F.toDesc pts mul msg) wl er pts.length).length : Int)) := fun msg h => by
  have h3 := h.2.2;rw [radI_yes (by omega) (by omega) (by omega)];omega
 obtain ⟨rz9,hrd⟩ : ∃ rz9,rz9 = radI ((pts.length : Int) - (kn : Int) + 1) (er.length : Int) := ⟨_,rfl⟩;rw [← hrd] at hRs hRd hfit;have hg3 := (hgf.below hb3).more hb3.size;have hrw3 := (hrw.below hB3).more hB3.size;have hre3 := (hre.below hB3).more hB3.size;have hr3 := (hr.below hB3).more hB3.size;have hr13 := (hr1.below hB3).more hB3.size;have hr23 := (hr2.below hB3).more hB3.size;have hMk3 := hMk w3.drew hre3.drew;have hwnH := Lib.hid hwn;replace hMk3 := Lib.hid hMk3;replace hMk := fun W a => Lib.hid (hMk W a)
 replace hCw := fun gb W a b d e f h => Lib.hid (hCw gb W a b d e f h)
 replace hRs := fun msg Ac cc gb W a b d => Lib.hid (hRs msg Ac cc gb W a b d)
 replace hRd := fun W => Lib.hid (hRd W)
 replace hrd := Lib.hid hrd;have hs3' : s < w3.heap.size := Nat.lt_of_succ_lt hs3;clear hwn helw hrg hnd hzr hb1 hb2 hb3 d0 d1 d2 kk1 kk2 hE0;obtain ⟨q0,q1,q2,q3,q4,q5⟩ := kk3.out;go_wp2_with (fail);clear q0 q1 q2 q3 q4 q5;refine wp_region_held_drew (S := fun w' => w'.cell? ⟨s,0,none⟩ = some (.int .i64 F.p) ∧ w'.cell? ⟨s,1,none⟩ = some (.int .i64 F.m) ∧ w'.cell? ⟨s,2,none⟩ = some (.slice A F.mod.length c) ∧ w'.cell? ⟨s,3,none⟩ = some (.int .i64 (kn : Int)) ∧ w'.cell? ⟨s,4,none⟩ = some (.slice A1 pts.length c1) ∧ w'.cell? ⟨s,5,none⟩ = some (.slice A2 mul.length c2)) (by kernel_rfl) (by (try dsimp only); exact kk3.out) (fun hHeld => ?_);refine tk 0 ?_; try simp only [pS]
 refine tk 2 ?_; try simp only [pS]
 refine tk 3 ?_; try simp only [pS]
 refine tk 4 ?_; try simp only [pS]
 refine wpAnyH_ready (rs := [1,5]) (by kernel_rfl) (by simp) ?_;refine AllReadyH.cons (o := ⟨_,_,_,_,_,_⟩) rfl (fun K hK => ?_) ?_
 ·go_simp;refine hK.out _ _ (by (try dsimp only); first | exact kk3.out | exact kk4.out) (fun hHeld => ?_);clear hK K;try simp only [pS]
  refine rd 5 fun K hK => ?_
  go_simp;go_at_call 130;(with_reducible refine (hMk3).out.mono ?_);rintro e w4 ⟨gb,rfl,hgb,hbb4,hb4⟩;have hb34 : Below w3.heap.size w3 w4 := (Below.refl _ w3).drew.trans hb4;have kk4 : Hid (w4.cell? ⟨s,0,none⟩ = some (.int .i64 F.p) ∧ w4.cell? ⟨s,1,none⟩ = some (.int .i64 F.m) ∧ w4.cell? ⟨s,2,none⟩ = some (.slice A F.mod.length c) ∧ w4.cell? ⟨s,3,none⟩ = some (.int .i64 (kn : Int)) ∧ w4.cell? ⟨s,4,none⟩ = some (.slice A1 pts.length c1) ∧ w4.cell? ⟨s,5,none⟩ = some (.slice A2 mul.length c2)) := keep6 hb34 hs3' kk3.out;have hC4 := hCw gb w4 ((hg3.below hb34).more hb34.size) ((hr3.below hb34).more hb34.size) ((hr13.below hb34).more hb34.size) ((hr23.below hb34).more hb34.size) ((hrw3.below hb34).more hb34.size) hbb4;go_wp2_with (fail);refine hK.out _ _ (by (try dsimp only); exact kk4.out) (fun hHeld => ?_);clear hK K;try simp only [pS]
  refine rd 6 fun K hK => ?_
  go_simp;go_at_call 186;(with_reducible refine (hC4).out.mono ?_);rintro e w5 ⟨hb5,vc,ec,rfl,hcase⟩;have hb35 := hb34.trans (hb5.mono hb34.size);have kk5 : Hid (w5.cell? ⟨s,0,none⟩ = some (.int .i64 F.p) ∧ w5.cell? ⟨s,1,none⟩ = some (.int .i64 F.m) ∧ w5.cell? ⟨s,2,none⟩ = some (.slice A F.mod.length c) ∧ w5.cell? ⟨s,3,none⟩ = some (.int .i64 (kn : Int)) ∧ w5.cell? ⟨s,4,none⟩ = some (.slice A1 pts.length c1) ∧ w5.cell? ⟨s,5,none⟩ = some (.slice A2 mul.length c2)) := keep6 hb35 hs3' kk3.out;go_wp2_with (fail);refine hK.out _ _ (by (try dsimp only); exact kk5.out) (fun hHeld => ?_);clear hK K;try simp only [pS]
  refine tk 7 ?_; try simp only [pS]
  refine tk 8 ?_; try simp only [pS]
  refine tk 9 ?_; try simp only [pS]
  refine tk 10 ?_; try simp only [pS]
  refine tk 11 ?_; try simp only [pS]
  refine wpAnyH_done (by kernel_rfl) ?_ _;have hB5 := hB3.trans (hb35.mono hB3.size);have hs5 : s + 1 < w5.heap.size := Nat.lt_of_lt_of_le hs3 hb35.size;have d5 := Lib.hid (d3.out.keep hb35 hs3);rcases hcase with ⟨rfl,msg,Ac,cc,rfl,hdec,hrc,hlo⟩ | ⟨rfl,hno⟩;rotate_left
  ·obtain ⟨a0,a1,f0,f1⟩ := d5.out;have hBs := fun u0 u1 => hB5.trans ((setTwo (w := w5) (b := s + 1) u0 u1).mono hsw)
   replace hno := Lib.hid hno;go_wp2_with (fail);refine bodyPost_ret (v := .tuple #[.agg #[.slice none 0 0,.slice none 0 0],.int .i64 12]) (by simp [results,Tryz.results116,go_sem,a0,a1]) rfl (GrsPost.no (hBs _ _) hE.out hno.out)
  replace hdec := Lib.hid hdec;have hb3s : w.heap.size ≤ w3.heap.size := hB3.size;have hMk5 := hMk w5.drew ((hre3.below hb35).more hb35.size).drew;have hK5 := Lib.hid kk5.out.2.2.2.1;have hrw5 := (hrw3.below hb35).more hb35.size;have hs5' : s < w5.heap.size := Nat.lt_of_succ_lt hs5;have hloA : w.heap.size ≤ w4.heap.size := Nat.le_trans hB3.size hb34.size;have hloB : w.heap.size ≤ w5.heap.size := hB5.size;have hb34s : s + 1 < w4.heap.size := Nat.lt_of_lt_of_le hs3 hb34.size;clear hC4 hbb4 hb4 hb5 hb34 kk4;go_wp2_with (fail);refine wp_region_held_drew (S := fun w' => w'.cell? ⟨s,3,none⟩ = some (.int .i64 (kn : Int))) (by kernel_rfl) (by (try dsimp only); exact hK5.out) (fun hHeld => ?_);refine tk 0 ?_; try simp only [pS]
  refine tk 1 ?_; try simp only [pS]
  refine tk 2 ?_; try simp only [pS]
  refine tk 3 ?_; try simp only [pS]
  refine tk 5 ?_; try simp only [pS]
  refine tk 6 ?_; try simp only [pS]
  refine tk 7 ?_; try simp only [pS]
  refine tk 8 ?_; try simp only [pS]
  refine tk 9 ?_; try simp only [pS]
  refine tk 10 ?_; try simp only [pS]
  refine tk 11 ?_; try simp only [pS]
  refine rd 4 fun K hK => ?_
  go_simp;go_at_call 130;(with_reducible refine (hMk5).out.mono ?_);rintro e w6 ⟨gb6,rfl,hgb6,hbb6,hb6⟩;have hb56 : Below w5.heap.size w5 w6 := (Below.refl _ w5).drew.trans hb6;have hK6 := Lib.hid ((hb56.cell (p := ⟨s,3,none⟩) hs5').trans hK5.out);have hR6 := hRd w6;have hS6 := hRs msg Ac cc gb6 w6 ((hrc.below hb56).more hb56.size) ((hrw5.below hb56).more hb56.size) hbb6;go_wp2_with (fail);refine hK.out _ _ (by (try dsimp only); exact hK6.out) (fun hHeld => ?_);clear hK K;try simp only [pS]
  refine rd 12 fun K hK => ?_
  go_simp;go_at_call 118;(with_reducible refine (hR6).out.mono ?_);rintro e w7 ⟨rfl,rfl⟩;go_wp2_with (fail);refine hK.out _ _ (by (try dsimp only); exact hK6.out) (fun hHeld => ?_);clear hK K;try simp only [pS]
  refine rd 13 fun K hK => ?_
  go_simp;go_at_call 129;(with_reducible refine (hS6).out.mono ?_);rintro e w8 ⟨hb8,hres⟩;have hb58 := hb56.trans (hb8.mono hb56.size);have hK8 := Lib.hid ((hb58.cell (p := ⟨s,3,none⟩) hs5').trans hK5.out);obtain ⟨Ae8,ce8,rfl,hre8,hlo8⟩ := ResPost.in hres (Int.not_lt.2 (hfit.out msg hdec.out));obtain ⟨a0,a1,f0,f1⟩ := d5.out.keep hb58 hs5;go_wp2_with (fail);refine hK.out _ _ (by (try dsimp only); exact hK8.out) (fun hHeld => ?_);clear hK K;try simp only [pS]
  refine tk 14 ?_; try simp only [pS]
  refine tk 15 ?_; try simp only [pS]
  refine rd 16 fun K hK => ?_
  go_simp;refine hK.out _ _ (by (try dsimp only); exact (World.cell?_setCell_far _ _ _ _ (by show s + 1 ≠ s; omega)).trans ((World.cell?_setCell_far _ _ _ _ (by show s + 1 ≠ s; omega)).trans hK8.out)) (fun hHeld => ?_);clear hK K;try simp only [pS]
  refine tk 17 ?_; try simp only [pS]
  refine wpAnyH_done (by kernel_rfl) ?_ _;have hBs := fun u0 u1 => (hB5.trans (hb58.mono hB5.size)).trans ((setTwo (w := w8) (b := s + 1) u0 u1).mono hsw)
  go_wp2_with (fail);refine bodyPost_ret (v := .tuple #[.agg #[.slice Ac pts.length cc,.slice Ae8 (errL (wordL F.toDesc pts mul msg) wl er pts.length).length ce8],.int .i64 0]) (by simp [results,Tryz.results116,go_sem,a0,a1]) rfl (GrsPost.ok (hBs _ _) hE.out hdec.out Ac cc Ae8 ce8 ?_ ?_ (fun a e => Nat.le_trans hloA (hlo a e)) (fun a e => Nat.le_trans hloB (Nat.le_trans hb56.size (hlo8 a e))))
  ·exact ((((hrc.below hb58).more hb58.size).far (g := s + 1) (fun a e => by have h1 := hlo a e; have h2 := hb34s; omega) 0 _).far (g := s + 1) (fun a e => by have h1 := hlo a e; have h2 := hb34s; omega) 1 _).more (by simp [World.setCell])
  ·exact ((hre8.far (g := s + 1) (fun a e => by have h1 := hlo8 a e; have h2 := hb56.size; omega) 0 _).far (g := s + 1) (fun a e => by have h1 := hlo8 a e; have h2 := hb56.size; omega) 1 _).more (by simp [World.setCell])
 refine AllReadyH.cons (o := ⟨_,_,_,_,_,_⟩) rfl (fun K hK => ?_) AllReadyH.nil;go_simp;go_at_call 130;(with_reducible refine (hMk3).out.mono ?_);rintro e w4 ⟨gb,rfl,hgb,hbb4,hb4⟩;have hb34 : Below w3.heap.size w3 w4 := (Below.refl _ w3).drew.trans hb4;have kk4 : Hid (w4.cell? ⟨s,0,none⟩ = some (.int .i64 F.p) ∧ w4.cell? ⟨s,1,none⟩ = some (.int .i64 F.m) ∧ w4.cell? ⟨s,2,none⟩ = some (.slice A F.mod.length c) ∧ w4.cell? ⟨s,3,none⟩ = some (.int .i64 (kn : Int)) ∧ w4.cell? ⟨s,4,none⟩ = some (.slice A1 pts.length c1) ∧ w4.cell? ⟨s,5,none⟩ = some (.slice A2 mul.length c2)) := keep6 hb34 hs3' kk3.out;have hC4 := hCw gb w4 ((hg3.below hb34).more hb34.size) ((hr3.below hb34).more hb34.size) ((hr13.below hb34).more hb34.size) ((hr23.below hb34).more hb34.size) ((hrw3.below hb34).more hb34.size) hbb4;go_wp2_with (fail);refine hK.out _ _ (by (try dsimp only); exact kk4.out) (fun hHeld => ?_);clear hK K;try simp only [pS]
 refine rd 1 fun K hK => ?_
 go_simp;refine hK.out _ _ (by (try dsimp only); first | exact kk3.out | exact kk4.out) (fun hHeld => ?_);clear hK K;try simp only [pS]
 refine rd 6 fun K hK => ?_
 go_simp;go_at_call 186;(with_reducible refine (hC4).out.mono ?_);rintro e w5 ⟨hb5,vc,ec,rfl,hcase⟩;have hb35 := hb34.trans (hb5.mono hb34.size);have kk5 : Hid (w5.cell? ⟨s,0,none⟩ = some (.int .i64 F.p) ∧ w5.cell? ⟨s,1,none⟩ = some (.int .i64 F.m) ∧ w5.cell? ⟨s,2,none⟩ = some (.slice A F.mod.length c) ∧ w5.cell? ⟨s,3,none⟩ = some (.int .i64 (kn : Int)) ∧ w5.cell? ⟨s,4,none⟩ = some (.slice A1 pts.length c1) ∧ w5.cell? ⟨s,5,none⟩ = some (.slice A2 mul.length c2)) := keep6 hb35 hs3' kk3.out;go_wp2_with (fail);refine hK.out _ _ (by (try dsimp only); exact kk5.out) (fun hHeld => ?_);clear hK K;try simp only [pS]
 refine tk 7 ?_; try simp only [pS]
 refine tk 8 ?_; try simp only [pS]
 refine tk 9 ?_; try simp only [pS]
 refine tk 10 ?_; try simp only [pS]
 refine tk 11 ?_; try simp only [pS]
 refine wpAnyH_done (by kernel_rfl) ?_ _;have hB5 := hB3.trans (hb35.mono hB3.size);have hs5 : s + 1 < w5.heap.size := Nat.lt_of_lt_of_le hs3 hb35.size;have d5 := Lib.hid (d3.out.keep hb35 hs3);rcases hcase with ⟨rfl,msg,Ac,cc,rfl,hdec,hrc,hlo⟩ | ⟨rfl,hno⟩;rotate_left
 ·obtain ⟨a0,a1,f0,f1⟩ := d5.out;have hBs := fun u0 u1 => hB5.trans ((setTwo (w := w5) (b := s + 1) u0 u1).mono hsw)
  replace hno := Lib.hid hno;go_wp2_with (fail);refine bodyPost_ret (v := .tuple #[.agg #[.slice none 0 0,.slice none 0 0],.int .i64 12]) (by simp [results,Tryz.results116,go_sem,a0,a1]) rfl (GrsPost.no (hBs _ _) hE.out hno.out)
 replace hdec := Lib.hid hdec;have hb3s : w.heap.size ≤ w3.heap.size := hB3.size;have hMk5 := hMk w5.drew ((hre3.below hb35).more hb35.size).drew;have hK5 := Lib.hid kk5.out.2.2.2.1;have hrw5 := (hrw3.below hb35).more hb35.size;have hs5' : s < w5.heap.size := Nat.lt_of_succ_lt hs5;have hloA : w.heap.size ≤ w4.heap.size := Nat.le_trans hB3.size hb34.size;have hloB : w.heap.size ≤ w5.heap.size := hB5.size;have hb34s : s + 1 < w4.heap.size := Nat.lt_of_lt_of_le hs3 hb34.size;clear hC4 hbb4 hb4 hb5 hb34 kk4;go_wp2_with (fail);refine wp_region_held_drew (S := fun w' => w'.cell? ⟨s,3,none⟩ = some (.int .i64 (kn : Int))) (by kernel_rfl) (by (try dsimp only); exact hK5.out) (fun hHeld => ?_);refine tk 0 ?_; try simp only [pS]
 refine tk 1 ?_; try simp only [pS]
 refine tk 2 ?_; try simp only [pS]
 refine tk 3 ?_; try simp only [pS]
 refine tk 5 ?_; try simp only [pS]
 refine tk 6 ?_; try simp only [pS]
 refine tk 7 ?_; try simp only [pS]
 refine tk 8 ?_; try simp only [pS]
 refine tk 9 ?_; try simp only [pS]
 refine tk 10 ?_; try simp only [pS]
 refine tk 11 ?_; try simp only [pS]
 refine rd 4 fun K hK => ?_
 go_simp;go_at_call 130;(with_reducible refine (hMk5).out.mono ?_);rintro e w6 ⟨gb6,rfl,hgb6,hbb6,hb6⟩;have hb56 : Below w5.heap.size w5 w6 := (Below.refl _ w5).drew.trans hb6;have hK6 := Lib.hid ((hb56.cell (p := ⟨s,3,none⟩) hs5').trans hK5.out);have hR6 := hRd w6;have hS6 := hRs msg Ac cc gb6 w6 ((hrc.below hb56).more hb56.size) ((hrw5.below hb56).more hb56.size) hbb6;go_wp2_with (fail);refine hK.out _ _ (by (try dsimp only); exact hK6.out) (fun hHeld => ?_);clear hK K;try simp only [pS]
 refine rd 12 fun K hK => ?_
 go_simp;go_at_call 118;(with_reducible refine (hR6).out.mono ?_);rintro e w7 ⟨rfl,rfl⟩;go_wp2_with (fail);refine hK.out _ _ (by (try dsimp only); exact hK6.out) (fun hHeld => ?_);clear hK K;try simp only [pS]
 refine rd 13 fun K hK => ?_
 go_simp;go_at_call 129;(with_reducible refine (hS6).out.mono ?_);rintro e w8 ⟨hb8,hres⟩;have hb58 := hb56.trans (hb8.mono hb56.size);have hK8 := Lib.hid ((hb58.cell (p := ⟨s,3,none⟩) hs5').trans hK5.out);obtain ⟨Ae8,ce8,rfl,hre8,hlo8⟩ := ResPost.in hres (Int.not_lt.2 (hfit.out msg hdec.out));obtain ⟨a0,a1,f0,f1⟩ := d5.out.keep hb58 hs5;go_wp2_with (fail);refine hK.out _ _ (by (try dsimp only); exact hK8.out) (fun hHeld => ?_);clear hK K;try simp only [pS]
 refine tk 14 ?_; try simp only [pS]
 refine tk 15 ?_; try simp only [pS]
 refine rd 16 fun K hK => ?_
 go_simp;refine hK.out _ _ (by (try dsimp only); exact (World.cell?_setCell_far _ _ _ _ (by show s + 1 ≠ s; omega)).trans ((World.cell?_setCell_far _ _ _ _ (by show s + 1 ≠ s; omega)).trans hK8.out)) (fun hHeld => ?_);clear hK K;try simp only [pS]
 refine tk 17 ?_; try simp only [pS]
 refine wpAnyH_done (by kernel_rfl) ?_ _;have hBs := fun u0 u1 => (hB5.trans (hb58.mono hB5.size)).trans ((setTwo (w := w8) (b := s + 1) u0 u1).mono hsw)
 go_wp2_with (fail);refine bodyPost_ret (v := .tuple #[.agg #[.slice Ac pts.length cc,.slice Ae8 (errL (wordL F.toDesc pts mul msg) wl er pts.length).length ce8],.int .i64 0]) (by simp [results,Tryz.results116,go_sem,a0,a1]) rfl (GrsPost.ok (hBs _ _) hE.out hdec.out Ac cc Ae8 ce8 ?_ ?_ (fun a e => Nat.le_trans hloA (hlo a e)) (fun a e => Nat.le_trans hloB (Nat.le_trans hb56.size (hlo8 a e))))
 ·exact ((((hrc.below hb58).more hb58.size).far (g := s + 1) (fun a e => by have h1 := hlo a e; have h2 := hb34s; omega) 0 _).far (g := s + 1) (fun a e => by have h1 := hlo a e; have h2 := hb34s; omega) 1 _).more (by simp [World.setCell])
 ·exact ((hre8.far (g := s + 1) (fun a e => by have h1 := hlo8 a e; have h2 := hb56.size; omega) 0 _).far (g := s + 1) (fun a e => by have h1 := hlo8 a e; have h2 := hb56.size; omega) 1 _).more (by simp [World.setCell])
end Go.Proofs.YtjdoneanohhkmaaGreat
