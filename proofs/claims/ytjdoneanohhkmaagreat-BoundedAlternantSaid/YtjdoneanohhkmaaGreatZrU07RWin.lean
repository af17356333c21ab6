/- Layer 39 of the program: within. -/
import Derived.Test.YtjdoneanohhkmaaGreatZrU07RBndG
import Derived.Test.YtjdoneanohhkmaaGreatZrU07RB39R
import Derived.Test.YtjdoneanohhkmaaGreatZrU07RAltF
import Derived.Test.YtjdoneanohhkmaaGreatZrU07RGrsU
import Derived.Test.YtjdoneanohhkmaaGreatZrU07RTk
namespace Go.Proofs.YtjdoneanohhkmaaGreat
open Go.RowKit Cw
attribute [local go_sem] Oper.semAt_some

def WinRes (S F : FD) (rt kn : Nat) (pts mul er : List Int) (u : Nat → R S.toDesc) (ec : Int) (la lb : List Int) : Prop :=
 (ec = 12 ∧ la = [] ∧ lb = [] ∧ WinNo S F rt kn pts mul er u) ∨ (ec = 0 ∧ ∃ v,la = rowL S.toDesc pts.length v ∧ lb = errL (rowL S.toDesc pts.length v) (rowL S.toDesc pts.length u) er pts.length ∧ WinOK S F rt kn pts mul er u v)
def WinPost (S : FD) (D : Desc) (kn : Nat) (pts mul er : List Int) (u : Nat → R S.toDesc) (w : World) (e : Ending) (w' : World) : Prop :=
 Below w.heap.size w w' ∧ ∃ (F : FD) (rt : Nat) (Aa Ab : Option Addr) (ca cb : Nat) (ec : Int) (la lb : List Int),F.toDesc = D ∧ IsRt S F rt ∧ e = .returned (.tuple #[.agg #[.slice Aa la.length ca,.slice Ab lb.length cb],.int .i64 ec]) ∧ WinRes S F rt kn pts mul er u ec la lb ∧
  Rd w' w'.heap.size Aa la ∧ Rd w' w'.heap.size Ab lb ∧ (∀ a,Aa = some a → w.heap.size ≤ a.block) ∧ ∀ a,Ab = some a → w.heap.size ≤ a.block
theorem CwPost.form3 {F : FD} {kn : Nat} {pts mul wl er : List Int} {w : World} {e : Ending} {w' : World} (h : CwPost F kn pts mul wl er w e w') : Below w.heap.size w w' ∧ ∃ v ec,e = .returned (.tuple #[v,.int .i64 ec]) ∧
  ((ec = 0 ∧ ∃ msg g c,v = .slice (some ⟨g,0,none⟩) pts.length c ∧ DecOK F.toDesc kn pts mul wl er msg ∧ IB w' g (wordL F.toDesc pts mul msg) ∧ w.heap.size ≤ g) ∨ (ec = 12 ∧ v = .slice none 0 0 ∧ DecNo F.toDesc kn pts mul wl er)) := by
 obtain ⟨hb,⟨msg,A,c,h1,rfl,h2,h3,g,rfl,hib⟩ | ⟨h1,rfl⟩⟩ := h
 ·exact ⟨hb,_,_,rfl,.inl ⟨rfl,msg,g,c,rfl,h1,hib,h3 _ rfl⟩⟩
 ·exact ⟨hb,_,_,rfl,.inr ⟨rfl,rfl,h1⟩⟩
theorem BkI.start (S F : FD) (r : R F.toDesc) (z : Int) : BkI S F r z 0 (lst F.q fun _ => z) :=
 ⟨lst_length _ _,fun _ hy => ⟨fun _ hx => absurd hx (Nat.not_lt_zero _),fun _ => lst_get _ hy⟩⟩
set_option maxRecDepth 100000 in
set_option maxHeartbeats 16000000 in
theorem gWithin_any (S : FD) (D : Desc) (kn : Nat) (pts mul er : List Int) (u : Nat → R S.toDesc) (rad : Int) (A B A1 A2 Aw Ae : Option Addr) (c b c1 c2 cw ce : Nat) (w : World) (hS : Good S.p S.m (modL S.toDesc)) (hD : Good D.p D.m (modL D)) (hz : gchkD D kn pts mul = 0) (hf : fitB S.toDesc D = true)
  (hr : Rd w w.heap.size A (modL S.toDesc)) (hrB : Rd w w.heap.size B (modL D)) (hr1 : Rd w w.heap.size A1 pts) (hr2 : Rd w w.heap.size A2 mul) (h1 : pts.length ≤ c1) (h1' : c1 ≤ maxLen) (hrw : Rd w w.heap.size Aw (rowL S.toDesc pts.length u)) (hre : Rd w w.heap.size Ae er) (hel : er.length ≤ 1000000)
  (hrg : ∀ x ∈ er,0 ≤ x ∧ x < (pts.length : Int)) (hnd : er.Nodup) (hrad : ∀ e : Nat,2 * e + er.length + kn ≤ pts.length → (e : Int) ≤ rad) :
  Calls Tryz.prog 121 #[.agg #[.int .i64 S.p,.int .i64 S.m,.slice A S.mod.length c],.agg #[.int .i64 D.p,.int .i64 D.m,.slice B D.mod.length b,.int .i64 (kn : Int),.slice A1 pts.length c1,.slice A2 mul.length c2],.slice Aw pts.length cw,.slice Ae er.length ce,.int .i64 rad] w (WinPost S D kn pts mul er u w) := by
 have hSq := S.toDesc.q256;obtain ⟨hn1,hn64,-,-,-,-,-,-,-⟩ := gchkD_zero hz;have hNw := fun W a => Lib.hid (New_good D B b W a hD)
 have hMk := fun W a => Lib.hid (gMarks_any er pts.length hn64 hrg Ae ce W a hel)
 have hmk := mk_ints pts.length (by omega);obtain ⟨s,hs⟩ : ∃ s,s = w.heap.size := ⟨_,rfl⟩;obtain ⟨Z,hZ⟩ : ∃ Z,Z = ((w.alloc (.cells #[.int .i64 S.p,.int .i64 S.m,.slice A S.mod.length c] 24)).alloc (.cells #[.int .i64 D.p,.int .i64 D.m,.slice B D.mod.length b,.int .i64 (kn : Int),.slice A1 pts.length c1,.slice A2 mul.length c2] 72)).alloc (.cells #[.slice none 0 0,.slice none 0 0] 90) := ⟨_,rfl⟩;have hB : Below w.heap.size w Z := by rw [hZ]; exact (((Below.refl _ _).alloc (Nat.le_refl _) _).alloc (by simp) _).alloc (by simp; omega) _
 have hZs : Z.heap.size = s + 1 + 1 + 1 := by rw [hZ,hs]; simp
 have hbA : Hid (Bxs Z s [.int .i64 S.p,.int .i64 S.m,.slice A S.mod.length c]) := by rw [hZ,hs]; exact ((Bxs.new w _ _).keep ((Below.refl _ _).alloc (Nat.le_refl _) _) (by simp)).keep ((Below.refl _ _).alloc (Nat.le_refl _) _) (by simp; omega)
 have hbG : Hid (Bxs Z (s + 1) [.int .i64 D.p,.int .i64 D.m,.slice B D.mod.length b,.int .i64 (kn : Int),.slice A1 pts.length c1,.slice A2 mul.length c2]) := by
  rw [hZ,hs];have h9 := Bxs.new (w.alloc (.cells #[.int .i64 S.p,.int .i64 S.m,.slice A S.mod.length c] 24)) [.int .i64 D.p,.int .i64 D.m,.slice B D.mod.length b,.int .i64 (kn : Int),.slice A1 pts.length c1,.slice A2 mul.length c2] 72;rw [World.size_alloc] at h9;exact h9.keep ((Below.refl _ _).alloc (Nat.le_refl _) _) (by simp)
 have hbR : Hid (Bxs Z (s + 1 + 1) [.slice none 0 0,.slice none 0 0]) := by
  rw [hZ,hs];have h9 := Bxs.new ((w.alloc (.cells #[.int .i64 S.p,.int .i64 S.m,.slice A S.mod.length c] 24)).alloc (.cells #[.int .i64 D.p,.int .i64 D.m,.slice B D.mod.length b,.int .i64 (kn : Int),.slice A1 pts.length c1,.slice A2 mul.length c2] 72)) [.slice none 0 0,.slice none 0 0] 90;rw [World.size_alloc,World.size_alloc] at h9;exact h9
 have hq := hNw Z ((hrB.below hB).more hB.size);have hsZ : s + 1 + 1 < Z.heap.size := by omega
 replace hZ := Lib.hid hZ;replace hZs := Lib.hid hZs;clear hNw;have hfi := Lib.hid (fitB_iff.1 hf);replace hz := Lib.hid hz;replace hD := Lib.hid hD;unfold WinPost;go_enter Tryz.func121,Tryz.ntmps121;obtain ⟨d0,d1,d2,d3,d4,d5⟩ := hbG.out.c6;go_wp2_with (fail);rw [← hZ.out];simp only [← hs];have hsw : w.heap.size ≤ s := Nat.le_of_eq hs.symm;replace hs := Lib.hid hs;go_wp2_with (fail);(with_reducible refine hq.out.mono ?_);rintro e w1 ⟨g,F,rfl,rfl,hgl,hgf,hb1⟩;clear hq d0 d1 d2 d3 d4 d5;have hFq := F.toDesc.q256;have hp := hfi.out.1;have hdv : S.m ∣ F.m := by
  obtain ⟨k,e,-,-,h9⟩ := divB_nat hfi.out.2;have e2 : S.m = k := by omega
  rw [e2]; exact h9
 obtain ⟨rt,hrt⟩ := isRt_ex hp hdv;have h0 := hrt.2.1;have hB1 := hB.trans (hb1.mono hB.size);have hq := Lib.hid (tEmbed_yes S F rt A c g w1 hgf ((hr.below hB1).more hB1.size) hS hp hfi.out.2 hrt);obtain ⟨a0,a1,a2⟩ := (hbA.out.keep hb1 (by omega)).c3;have hmkq := mk_ints F.q (by omega);have hpH := Lib.hid hp;have h0H := Lib.hid h0;have hrtH := Lib.hid hrt;clear hfi hf hdv hp h0 hrt;go_wp2_with (fail);(with_reducible refine hq.out.mono ?_);rintro e w2 ⟨v,rfl,hown,hb2⟩;clear hq a0 a1 a2;obtain ⟨Ai,ci',rfl,hci1,hri,-⟩ := hown.form;rw [embL_length] at hci1 ⊢;have hZ2 := hb1.trans (hb2.mono hb1.size);have hB2 := hB.trans (hZ2.mono hB.size);have hgf2 := (hgf.below hb2).more hb2.size;have hq := Lib.hid (gOrder_any F g w2 hgf2);obtain ⟨gb,hgb⟩ : ∃ gb,gb = w2.heap.size := ⟨_,rfl⟩;obtain ⟨Y,hY⟩ : ∃ Y,Y = w2.alloc (.cells (Array.replicate F.q (Value.int .i64 0)) 3) := ⟨_,rfl⟩;have hbY : Below gb w2 Y := by rw [hY,hgb]; exact (Below.refl _ _).alloc (Nat.le_refl _) _
 have hib0 : Hid (IB Y gb (upd F.q 0 fun _ => (-1 : Int))) := by rw [hY,hgb,upd_zero]; exact Lib.hid (IB.newz w2 F.q)
 have hsb : s + 1 + 1 < gb := by rw [hgb]; exact Nat.lt_of_lt_of_le hsZ hZ2.size
 have hwb : w.heap.size ≤ gb := by rw [hgb]; exact hB2.size
 have hbA2 := Lib.hid (hbA.out.keep hZ2 (by omega));have hbG2 := Lib.hid (hbG.out.keep hZ2 (by omega));have hbR2 := Lib.hid (hbR.out.keep hZ2 hsZ);have hgf3 := hgf2;have hri2 := hri;have hrB2 := (hrB.below hB2).more hB2.size;have hr12 := (hr1.below hB2).more hB2.size;have hr22 := (hr2.below hB2).more hB2.size;have hrw2 := (hrw.below hB2).more hB2.size;have hre2 := (hre.below hB2).more hB2.size;rw [← hgb] at hgf3 hri2 hrB2 hr12 hr22 hrw2 hre2;replace hY := Lib.hid hY;clear hown hgf hgf2 hri hrB hr1 hr2 hrw hre hr hbA hbG hbR;go_wp2_with (fail);(with_reducible refine hq.out.mono ?_);rintro e wq ⟨rfl,rfl⟩;clear hq;go_wp2_with (fail);rw [← hY.out];simp only [← hgb];replace hgb := Lib.hid hgb;go_loopw [44,17] (fun iS _ wr => ∃ k : Nat,k ≤ F.q ∧ iS = .int .i64 k ∧ Hid (IB wr gb (upd F.q k fun _ => (-1 : Int))) ∧ Below gb w2 wr) (fun iS _ _ => F.q - (intOf iS).toNat)
 case atStart => exact ⟨0,by omega,rfl,hib0,hbY⟩
 case round =>
  clear hib0 hbY hmkq;obtain ⟨w3,rfl⟩ : ∃ w3 : World,w3 = wr := ⟨_,rfl⟩;obtain ⟨k,hk,rfl,hib,hb3⟩ := hrel;by_cases hkq : k < F.q
  ·have k0 : (0 : Int) ≤ (k : Int) := by omega
   have k1 : (k : Int) < (F.q : Int) := by omega
   have hcW := hib.out.cell (i := k) (by rw [upd_length]; exact hkq);have hfW := hib.out.frozen k;have hset := hib.out.set_ k (-1);rw [upd_set F.q k (fun _ => (-1 : Int))] at hset;replace hset := Lib.hid hset;have hb4 := Lib.hid (hb3.setCell (p := ⟨gb,k,none⟩) (Nat.le_refl _) (.int .i64 (-1)));clear hib;go_wp2_with (fail);go_roundw
   case rel => exact ⟨k + 1,by omega,by go_num,hset,hb4.out⟩
   case measure => simp [intOf]; omega
  ·obtain rfl : F.q = k := by omega
   rw [upd_full] at hib;have hbk0 := Lib.hid (BkI.start S F (rel F.toDesc rt) (-1));go_wp2_with (fail);go_loopw [53,18,19] (fun i _ _ wr => ∃ (k : Nat) (L : List Int),k ≤ S.q ∧ i = .int .i64 k ∧ Hid (IB wr gb L) ∧ Hid (BkI S F (rel F.toDesc rt) (-1) k L) ∧ Below gb w2 wr) (fun i _ _ _ => S.q - (intOf i).toNat)
   case atStart => exact ⟨0,_,by omega,rfl,hib,hbk0,hb3⟩
   case round =>
    clear hib hbk0 hb3;obtain ⟨w3,rfl⟩ : ∃ w3 : World,w3 = wr := ⟨_,rfl⟩;obtain ⟨k,L,hk,rfl,hib,hbk,hb3⟩ := hrel;have hgl3 := hib.out.lt;by_cases hlt : k < S.q
    ·have j0 : (0 : Int) ≤ (k : Int) := by omega
     have j1 : (k : Int) < (S.q : Int) := by omega
     obtain ⟨bi,oi,rfl,hbi,hci⟩ := hri2.at_ (k := k) (by rw [embL_length]; exact hlt);rw [embL_get S F rt hlt] at hci;obtain ⟨y,hy⟩ : ∃ y : Nat,y = rcode (phi S F (rel F.toDesc rt) (rel S.toDesc k)) := ⟨_,rfl⟩;have hyl : y < F.q := by rw [hy]; exact rcode_lt _
     have hst := hbk.out.step hpH.out h0H.out hlt;rw [← hy] at hst;rw [show ci (phi S F (rel F.toDesc rt) (rel S.toDesc k)) = (y : Int) from by rw [hy]; rfl] at hci;replace hst := Lib.hid hst;replace hy := Lib.hid hy;replace hci := (hb3.cell (p := ⟨bi,oi + k,none⟩) hbi).trans hci;have hcW := hib.out.cell (i := y) (by rw [hbk.out.1]; exact hyl);have hfW := hib.out.frozen y;have hset := Lib.hid (hib.out.set_ y (k : Int));have y0 : (0 : Int) ≤ (y : Int) := by omega
     have y1 : (y : Int) < (F.q : Int) := by omega
     have hb4 := Lib.hid (hb3.setCell (p := ⟨gb,y,none⟩) (Nat.le_refl _) (.int .i64 k));go_wp2_with (fail);go_roundw
     case rel => exact ⟨k + 1,_,by omega,by go_num,hset,hst,hb4.out⟩
     case measure => simp [intOf]; omega
    ·have hkq : k = S.q := by omega
     rw [hkq] at hbk;replace hkq := Lib.hid hkq;obtain ⟨f,hf⟩ : ∃ f : Nat → Int,f = fun j => ci (phi S F (rel F.toDesc rt) (u j)) := ⟨_,rfl⟩
     have himg : Hid (lst pts.length f = imgL S F rt pts.length u) := by rw [hf]; exact Lib.hid rfl
     have hfe : Hid (∀ j,(embL S F rt)[rcode (u j)]?.getD 0 = f j) := fun j => by rw [hf,embL_get S F rt (rcode_lt (u j)),rel_rcode]
     obtain ⟨gB,hgB⟩ : ∃ gB,gB = w3.heap.size := ⟨_,rfl⟩;obtain ⟨Y3,hY3⟩ : ∃ Y3,Y3 = w3.alloc (.cells (Array.replicate pts.length (Value.int .i64 0)) 3) := ⟨_,rfl⟩;have hbY3 : Below gB w3 Y3 := by rw [hY3,hgB]; exact (Below.refl _ _).alloc (Nat.le_refl _) _
     have hib3 : Hid (IB Y3 gB (upd pts.length 0 f)) := by rw [hY3,hgB,upd_zero]; exact Lib.hid (IB.newz w3 pts.length)
     have hgbB : gb < gB := by rw [hgB]; exact hgl3
     replace hY3 := Lib.hid hY3;replace hf := Lib.hid hf;go_wp2_with (fail);rw [← hY3.out];simp only [← hgB];replace hgB := Lib.hid hgB;go_loopw [68,21,22] (fun iS _ _ wr => ∃ k : Nat,k ≤ pts.length ∧ iS = .int .i64 k ∧ Hid (IB wr gB (upd pts.length k f)) ∧ Below gB w3 wr) (fun iS _ _ _ => pts.length - (intOf iS).toNat)
     case atStart => exact ⟨0,by omega,rfl,hib3,hbY3⟩
     case round =>
      clear hib3 hbY3;obtain ⟨w5,rfl⟩ : ∃ w5 : World,w5 = wr := ⟨_,rfl⟩;obtain ⟨k,hk,rfl,hib5,hb5⟩ := hrel;have hb35 := hb3.trans (hb5.mono (Nat.le_of_lt hgbB));have hgB5 := hib5.out.lt;by_cases hkN : k < pts.length
      ·have k0 : (0 : Int) ≤ (k : Int) := by omega
       have k1 : (k : Int) < (pts.length : Int) := by omega
       obtain ⟨bw,ow,rfl,hbw1,hcw⟩ := hrw2.at_ (k := k) (by rw [rowL_length]; exact hkN);rw [rowL_get _ _ hkN] at hcw;have hcw2 := (hb35.cell (p := ⟨bw,ow + k,none⟩) hbw1).trans hcw;obtain ⟨x,hx⟩ : ∃ x : Nat,x = rcode (u k) := ⟨_,rfl⟩;have hxl : x < S.q := by rw [hx]; exact rcode_lt _
       rw [show ci (u k) = (x : Int) from by rw [hx]; rfl] at hcw2;obtain ⟨be,oe,rfl,hbe,hce2⟩ := hri2.at_ (k := x) (by rw [embL_length]; exact hxl);rw [hx,hfe.out k,← hx] at hce2;have hce3 := (hb35.cell (p := ⟨be,oe + x,none⟩) hbe).trans hce2;obtain ⟨y,hy⟩ : ∃ y,y = f k := ⟨_,rfl⟩;rw [← hy] at hce3;have x0 : (0 : Int) ≤ (x : Int) := by omega
       have x1 : (x : Int) < (S.q : Int) := by omega
       have hcW := hib5.out.cell (i := k) (by rw [upd_length]; exact hkN);have hfW := hib5.out.frozen k;have hset := hib5.out.set_ k y;rw [hy,upd_set,← hy] at hset;replace hset := Lib.hid hset;have hb6 := Lib.hid (hb5.setCell (p := ⟨gB,k,none⟩) (Nat.le_refl _) (.int .i64 y));replace hx := Lib.hid hx;replace hy := Lib.hid hy;clear hcw hce2 hib5;go_wp2_with (fail);go_roundw
       case rel => exact ⟨k + 1,by omega,by go_num,hset,hb6.out⟩
       case measure => simp [intOf]; omega
      ·obtain rfl : pts.length = k := by omega
       rw [upd_full,himg.out] at hib5;have hgbl : gb ≤ w5.heap.size := Nat.le_trans (Nat.le_of_lt hgbB) (Nat.le_of_lt hgB5);have hib5b := Lib.hid (hib.out.below hb5 hgbB);have hgb5 : gb < w5.heap.size := Nat.lt_trans hgbB hgB5;have hrB5 := (hrB2.below hb35).more hgbl;have hr15 := (hr12.below hb35).more hgbl;have hr25 := (hr22.below hb35).more hgbl;have hrw5 := (hrw2.below hb35).more hgbl;have hre5 := (hre2.below hb35).more hgbl;have hgf5 := (hgf3.below hb35).more hgbl;have hbG5 : Hid (w5.cell? ⟨s + 1,0,none⟩ = some (.int .i64 F.p) ∧ w5.cell? ⟨s + 1,1,none⟩ = some (.int .i64 F.m) ∧ w5.cell? ⟨s + 1,2,none⟩ = some (.slice B F.mod.length b) ∧ w5.cell? ⟨s + 1,3,none⟩ = some (.int .i64 (kn : Int)) ∧ w5.cell? ⟨s + 1,4,none⟩ = some (.slice A1 pts.length c1) ∧ w5.cell? ⟨s + 1,5,none⟩ = some (.slice A2 mul.length c2)) := (hbG2.out.keep hb35 (by omega)).c6;have hbR5 := Lib.hid (hbR2.out.keep hb35 hsb);have hB5 := hB2.trans (hb35.mono hwb);have hCw := fun gm W x1 x2 x3 x4 x5 x6 => (gCodeword_any F kn pts mul (imgL S F rt pts.length u) er hz.out hD.out (imgL_len S F rt pts.length u) (imgL_elB S F rt pts.length u) hrg hnd B A1 A2 (some ⟨gB,0,none⟩) b c1 c2 pts.length gm g W x1 x2 x3 x4 h1 h1' x5 x6).mono fun _ _ hp => hp.form3
       rw [imgL_len] at hCw;have hMk5 := hMk w5.drew hre5.drew;replace hCw := fun gm W x1 x2 x3 x4 x5 x6 => Lib.hid (hCw gm W x1 x2 x3 x4 x5 x6)
       have hs5 : s + 1 < w5.heap.size := by omega
       have hs5' : s + 1 + 1 < w5.heap.size := by omega
       have hrI5 := hib5.out.rd;obtain ⟨d0,d1,d2,d3,d4,d5⟩ := hbG5.out;go_wp2_with (fail);clear d0 d1 d2 d3 d4 d5;refine wp_region_held_drew (S := fun w' => w'.cell? ⟨s + 1,0,none⟩ = some (.int .i64 F.p) ∧ w'.cell? ⟨s + 1,1,none⟩ = some (.int .i64 F.m) ∧ w'.cell? ⟨s + 1,2,none⟩ = some (.slice B F.mod.length b) ∧ w'.cell? ⟨s + 1,3,none⟩ = some (.int .i64 (kn : Int)) ∧ w'.cell? ⟨s + 1,4,none⟩ = some (.slice A1 pts.length c1) ∧ w'.cell? ⟨s + 1,5,none⟩ = some (.slice A2 mul.length c2)) (by kernel_rfl) (by (try dsimp only); exact hbG5.out) (fun hHeld => ?_);refine tk 0 ?_; try simp only [pS]
       refine tk 1 ?_; try simp only [pS]
       refine tk 2 ?_; try simp only [pS]
       refine tk 3 ?_; try simp only [pS]
       refine tk 4 ?_; try simp only [pS]
       refine tk 5 ?_; try simp only [pS]
       refine rd 6 fun K hK => ?_
       go_simp;go_at_call 130;(with_reducible refine (hMk5).out.mono ?_);rintro e w6 ⟨gm,rfl,hgm,hbb6,hb6⟩;have hb56 : Below w5.heap.size w5 w6 := (Below.refl _ w5).drew.trans hb6;have hbG6 : Hid (w6.cell? ⟨s + 1,0,none⟩ = some (.int .i64 F.p) ∧ w6.cell? ⟨s + 1,1,none⟩ = some (.int .i64 F.m) ∧ w6.cell? ⟨s + 1,2,none⟩ = some (.slice B F.mod.length b) ∧ w6.cell? ⟨s + 1,3,none⟩ = some (.int .i64 (kn : Int)) ∧ w6.cell? ⟨s + 1,4,none⟩ = some (.slice A1 pts.length c1) ∧ w6.cell? ⟨s + 1,5,none⟩ = some (.slice A2 mul.length c2)) := keep6 hb56 hs5 hbG5.out;have hC6 := hCw gm w6 ((hgf5.below hb56).more hb56.size) ((hrB5.below hb56).more hb56.size) ((hr15.below hb56).more hb56.size) ((hr25.below hb56).more hb56.size) ((hrI5.below hb56).more hb56.size) hbb6;go_wp2_with (fail);refine hK.out _ _ (by (try dsimp only); exact hbG6.out) (fun hHeld => ?_);clear hK K;try simp only [pS]
       refine rd 7 fun K hK => ?_
       go_simp;go_at_call 186;(with_reducible refine (hC6).out.mono ?_);rintro e w7 ⟨hb7,vc,ec,rfl,hcase⟩;have hb57 := hb56.trans (hb7.mono hb56.size);have hbG7 : Hid (w7.cell? ⟨s + 1,0,none⟩ = some (.int .i64 F.p) ∧ w7.cell? ⟨s + 1,1,none⟩ = some (.int .i64 F.m) ∧ w7.cell? ⟨s + 1,2,none⟩ = some (.slice B F.mod.length b) ∧ w7.cell? ⟨s + 1,3,none⟩ = some (.int .i64 (kn : Int)) ∧ w7.cell? ⟨s + 1,4,none⟩ = some (.slice A1 pts.length c1) ∧ w7.cell? ⟨s + 1,5,none⟩ = some (.slice A2 mul.length c2)) := keep6 hb57 hs5 hbG5.out;go_wp2_with (fail);refine hK.out _ _ (by (try dsimp only); exact hbG7.out) (fun hHeld => ?_);clear hK K;try simp only [pS]
       refine tk 8 ?_; try simp only [pS]
       refine tk 9 ?_; try simp only [pS]
       refine tk 10 ?_; try simp only [pS]
       refine tk 11 ?_; try simp only [pS]
       refine tk 12 ?_; try simp only [pS]
       refine wpAnyH_done (by kernel_rfl) ?_ _;have hB7 := hB5.trans (hb57.mono hB5.size);have hbR7 := hbR5.out.keep hb57 hs5';have hs7 : s + 1 + 1 < w7.heap.size := Nat.lt_of_lt_of_le hs5' hb57.size;rcases hcase with ⟨rfl,msg,gc,cc,rfl,hdec,hibc,hgc⟩ | ⟨rfl,rfl,hno⟩;rotate_left
       ·obtain ⟨q0,q1⟩ := hbR7.c2;obtain ⟨f0,f1⟩ := hbR7.f2;have hBs := Lib.hid (hB7.trans ((setTwo (w := w7) (b := s + 1 + 1) (.slice none 0 0) (.slice none 0 0)).mono (by omega)));have hwn := Lib.hid (win_no hpH.out h0H.out hz.out hno);clear hno hbR7;go_wp2_with (fail);refine bodyPost_ret (v := .tuple #[.agg #[.slice none 0 0,.slice none 0 0],.int .i64 12]) (by simp [results,Tryz.results121,go_sem,q0,q1]) rfl ⟨hBs.out,F,rt,none,none,0,0,12,[],[],rfl,hrtH.out,rfl,.inl ⟨rfl,rfl,rfl,hwn.out⟩,Rd.nil,Rd.nil,(fun _ e => by cases e),fun _ e => by cases e⟩
       obtain ⟨cl,hcl⟩ : ∃ cl,cl = wordL F.toDesc pts mul msg := ⟨_,rfl⟩;have hcll : cl.length = pts.length := by rw [hcl]; exact wordL_length _ _ _ _
       have hclE : Hid (∀ j,j < pts.length → ∃ y : Nat,cl[j]?.getD 0 = (y : Int) ∧ y < F.q) := fun j hj => by
        rw [hcl,wordL_get F.toDesc hj];exact ⟨_,rfl,rcode_lt _⟩
       obtain ⟨f2,hf2⟩ : ∃ f2 : Nat → Int,f2 = fun j => L[(cl[j]?.getD 0).toNat]?.getD 0 := ⟨_,rfl⟩
       have hib7 := Lib.hid (hib5b.out.below hb57 hgb5);rw [← hcl,← mixL_zero cl f2] at hibc;have hgb6 : gb < w6.heap.size := Nat.lt_of_lt_of_le hgb5 hb56.size;have hibc0 := Lib.hid hibc;have h67 := hb7.size;have hclH := Lib.hid hcl;have hcllH := Lib.hid hcll;replace hf2 := Lib.hid hf2;have hpre0 : Hid (∀ j,j < 0 → ∃ x : R S.toDesc,ci (phi S F (rel F.toDesc rt) x) = cl[j]?.getD 0 ∧ f2 j = ci x) := fun j hj => absurd hj (Nat.not_lt_zero _)
       have hbb7 : Below w6.heap.size w7 w7 := Below.refl _ _;have hbR7H := Lib.hid hbR7;clear hcl hcll hibc hbR7 hMk5 hCw hC6 hbb6;go_wp2_with (fail);go_loopw [97,25,26] (fun iS _ _ wr => ∃ i : Nat,i ≤ pts.length ∧ iS = .int .i64 i ∧ Hid (IB wr gc (mixL cl i f2)) ∧ Hid (∀ j,j < i → ∃ x : R S.toDesc,ci (phi S F (rel F.toDesc rt) x) = cl[j]?.getD 0 ∧ f2 j = ci x) ∧ Below w6.heap.size w7 wr) (fun iS _ _ _ => pts.length - (intOf iS).toNat)
       case atStart => exact ⟨0,by omega,rfl,hibc0,hpre0,hbb7⟩
       case round =>
        clear hibc0 hpre0 hbb7;obtain ⟨w8,rfl⟩ : ∃ w8 : World,w8 = wr := ⟨_,rfl⟩;obtain ⟨i,hi,rfl,hibc,hpre,hb8⟩ := hrel;have hgc8 := hibc.out.lt;have hib8 := Lib.hid (hib7.out.below hb8 hgb6);have hB8 := hB7.trans (hb8.mono (Nat.le_trans hB5.size hb56.size));have hs8 : s + 1 + 1 < w6.heap.size := Nat.lt_of_lt_of_le hs5' hb56.size;have hbR8 := hbR7H.out.keep hb8 hs8;by_cases hin : i < pts.length
        ·have i0 : (0 : Int) ≤ (i : Int) := by omega
         have i1 : (i : Int) < (pts.length : Int) := by omega
         obtain ⟨y,hye,hyq⟩ := hclE.out i hin;have hcc := hibc.out.cell (i := i) (by rw [mixL_length,hcllH.out]; exact hin);rw [show (mixL cl i f2)[i]?.getD 0 = (y : Int) from by unfold mixL; rw [lst_get _ (by rw [hcllH.out]; exact hin),if_neg (Nat.lt_irrefl i)]; exact hye] at hcc;have hcb := hib8.out.cell (i := y) (by rw [hbk.out.1]; exact hyq);have y0 : (0 : Int) ≤ (y : Int) := by omega
         have y1 : (y : Int) < (F.q : Int) := by omega
         by_cases hx : ∃ x,x < S.q ∧ rcode (phi S F (rel F.toDesc rt) (rel S.toDesc x)) = y
         ·obtain ⟨x,hxq,hxe⟩ := hx;rw [(hbk.out.2 y hyq).1 x hxq hxe] at hcb;have hx0 : ¬ ((x : Int) < 0) := by omega
          have hf2i : Hid (f2 i = (x : Int)) := by
           rw [hf2.out]
           show L[(cl[i]?.getD 0).toNat]?.getD 0 = (x : Int)
           rw [hye,Int.toNat_natCast];exact (hbk.out.2 y hyq).1 x hxq hxe
          have hpre2 : Hid (∀ j,j < i + 1 → ∃ x : R S.toDesc,ci (phi S F (rel F.toDesc rt) x) = cl[j]?.getD 0 ∧ f2 j = ci x) := fun j hj => by
           by_cases e : j = i
           ·rw [e];exact ⟨rel S.toDesc x,by rw [hye,← hxe]; rfl,by rw [hf2i.out,ci_rel hxq]⟩
           ·exact hpre.out j (by omega)
          have hcW := hibc.out.cell (i := i) (by rw [mixL_length,hcllH.out]; exact hin);have hfW := hibc.out.frozen i;have hset := hibc.out.set_ i (x : Int);rw [← hf2i.out,mixL_set,hf2i.out] at hset;replace hset := Lib.hid hset;have hb9 := Lib.hid (hb8.setCell (p := ⟨gc,i,none⟩) hgc (.int .i64 (x : Int)));replace hye := Lib.hid hye;replace hxe := Lib.hid hxe;clear hcW hbR8;go_wp2_with (fail);go_roundw
          case rel => exact ⟨i + 1,by omega,by go_num,hset,hpre2,hb9.out⟩
          case measure => simp [intOf]; omega
         ·rw [(hbk.out.2 y hyq).2 fun x hxq hxe => hx ⟨x,hxq,hxe⟩] at hcb;have hwn : Hid (WinNo S F rt kn pts mul er u) := win_out hpH.out h0H.out hz.out hrg hnd hdec hin fun x e => hx ⟨rcode x,rcode_lt x,by
           rw [rel_rcode];have e2 : ci (phi S F (rel F.toDesc rt) x) = (y : Int) := by rw [e,← hclH.out,hye]
           exact Int.ofNat.inj e2⟩
          obtain ⟨q0,q1⟩ := hbR8.c2;obtain ⟨f0,f1⟩ := hbR8.f2;have hBs := Lib.hid (hB8.trans ((setTwo (w := w8) (b := s + 1 + 1) (.slice none 0 0) (.slice none 0 0)).mono (by omega)));replace hye := Lib.hid hye;replace hx := Lib.hid hx;clear hbR8;go_wp2_with (fail);refine bodyPost_ret (v := .tuple #[.agg #[.slice none 0 0,.slice none 0 0],.int .i64 12]) (by simp [results,Tryz.results121,go_sem,q0,q1]) rfl ⟨hBs.out,F,rt,none,none,0,0,12,[],[],rfl,hrtH.out,rfl,.inl ⟨rfl,rfl,rfl,hwn.out⟩,Rd.nil,Rd.nil,(fun _ e => by cases e),fun _ e => by cases e⟩
        ·obtain rfl : pts.length = i := by omega
         obtain ⟨v,hv⟩ : ∃ v : Nat → R S.toDesc,v = fun j => eli S.toDesc (f2 j) := ⟨_,rfl⟩
         have hvj : ∀ j,j < pts.length → ci (phi S F (rel F.toDesc rt) (v j)) = cl[j]?.getD 0 ∧ f2 j = ci (v j) := fun j hj => by
          obtain ⟨x,e1,e2⟩ := hpre.out j hj;have e3 : v j = x := by rw [hv]; show eli S.toDesc (f2 j) = x; rw [e2]; exact eli_ci x
          rw [e3]; exact ⟨e1,e2⟩
         have hwim : Hid (wordL F.toDesc pts mul msg = imgL S F rt pts.length v) := by
          rw [Hid,← hclH.out,eq_lst cl,hcllH.out];exact lst_congr fun j hj => (hvj j hj).1.symm
         have hmix : mixL cl pts.length f2 = rowL S.toDesc pts.length v := by
          have e := mixL_full cl f2;rw [hcllH.out] at e;rw [e];exact lst_congr fun j hj => (hvj j hj).2
         have hok := win_ok hpH.out h0H.out hz.out hdec hwim.out;rw [hmix] at hibc;have hrv := hibc.out.rd;have hfit : ¬ rad < ((errL (rowL S.toDesc pts.length v) (rowL S.toDesc pts.length u) er pts.length).length : Int) := by have := hrad _ hok.2; omega
         have hlo5 : w5.heap.size ≤ w8.heap.size := Nat.le_trans hb57.size hb8.size;have hb58 := hb57.trans (hb8.mono hb56.size);have hq := hMk w8 ((hre5.below hb58).more hlo5);have hRs := fun gm W x1 x2 x3 => (gResult_any pts.length (rowL S.toDesc pts.length v) (rowL S.toDesc pts.length u) er rad hn64 (rowL_length _ _ _) (rowL_length _ _ _) (some ⟨gc,0,none⟩) Aw cc cw gm W x1 x2 x3).mono fun _ _ hp => And.intro hp.1 (ResPost.in hp.2 hfit)
         replace hRs := fun gm W x1 x2 x3 => Lib.hid (hRs gm W x1 x2 x3)
         have hokH := Lib.hid hok;have hrw8 := (hrw5.below hb58).more hlo5;replace hv := Lib.hid hv;replace hmix := Lib.hid hmix;replace hfit := Lib.hid hfit;have hwgc : w.heap.size ≤ gc := by have := hB5.size; have := hb56.size; omega
         clear hvj hok;go_wp2_with (fail);(with_reducible refine hq.out.mono ?_);rintro e w9 ⟨gm9,rfl,hgm9,hbb9,hb9⟩;clear hq;have hq := hRs gm9 w9 ((hrv.below hb9).more hb9.size) ((hrw8.below hb9).more hb9.size) hbb9;clear hRs hbb9;go_wp2_with (fail);(with_reducible refine hq.out.mono ?_);rintro e wa ⟨hba,Aea,cea,rfl,hrea,hloa⟩;clear hq;have hb8a := hb9.trans (hba.mono hb9.size);have hs8s : s + 1 + 1 < w8.heap.size := Nat.lt_of_lt_of_le hs5' hlo5;have hbRa := hbR8.keep hb8a hs8s;obtain ⟨q0,q1⟩ := hbRa.c2;obtain ⟨f0,f1⟩ := hbRa.f2;have hBa := hB8.trans (hb8a.mono hB8.size);obtain ⟨le,hle⟩ : ∃ le,le = (errL (rowL S.toDesc pts.length v) (rowL S.toDesc pts.length u) er pts.length).length := ⟨_,rfl⟩;have hfin : Hid (WinPost S F.toDesc kn pts mul er u w (.returned (.tuple #[.agg #[.slice (some ⟨gc,0,none⟩) pts.length cc,.slice Aea le cea],.int .i64 0])) ((wa.setCell ⟨s + 1 + 1,0,none⟩ (.slice (some ⟨gc,0,none⟩) pts.length cc)).setCell ⟨s + 1 + 1,1,none⟩ (.slice Aea le cea))) := by
          have hw9 := hB8.size;have h89 := hb9.size;refine ⟨hBa.trans ((setTwo _ _).mono (by omega)),F,rt,some ⟨gc,0,none⟩,Aea,cc,cea,0,rowL S.toDesc pts.length v,_,rfl,hrtH.out,?_,.inr ⟨rfl,v,rfl,rfl,hokH.out⟩,?_,?_,fun a e => by cases e; exact hwgc,fun a e => Nat.le_trans (Nat.le_trans hw9 h89) (hloa a e)⟩
          ·rw [rowL_length,hle]
          ·exact (((hrv.below hb8a).more hb8a.size).far (g := s + 1 + 1) (fun a e => by cases e; show gc ≠ s + 1 + 1; omega) 0 _).far (g := s + 1 + 1) (fun a e => by cases e; show gc ≠ s + 1 + 1; omega) 1 _ |>.more (by simp [World.setCell])
          ·exact ((hrea.far (g := s + 1 + 1) (fun a e => by have h1 := hloa a e; omega) 0 _).far (g := s + 1 + 1) (fun a e => by have h1 := hloa a e; omega) 1 _).more (by simp [World.setCell])
         unfold WinPost at hfin;rw [← hle];replace hle := Lib.hid hle;clear hrv hrea hbRa hbR8;go_wp2_with (fail);refine bodyPost_ret (v := .tuple #[.agg #[.slice (some ⟨gc,0,none⟩) pts.length cc,.slice Aea le cea],.int .i64 0]) (by simp [results,Tryz.results121,go_sem,q0,q1]) rfl hfin.out
end Go.Proofs.YtjdoneanohhkmaaGreat
