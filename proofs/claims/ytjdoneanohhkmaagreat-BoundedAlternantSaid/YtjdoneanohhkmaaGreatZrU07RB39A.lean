/- The field of 4 elements of the chapters' examples. Layer 39: the law's own right and alive. -/
import Derived.Test.YtjdoneanohhkmaaGreatZrU07RP1
import Derived.Test.YtjdoneanohhkmaaGreatZrU07RRG
import Derived.Test.YtjdoneanohhkmaaGreatZrU07RB39R
import Derived.Test.YtjdoneanohhkmaaGreatZrU07RTk
namespace Go.Proofs.YtjdoneanohhkmaaGreat
section
open Go.RowKit Cw

def D4 : Desc where
 p := 2
 m := 2
 mod := [1,1]
 hp := ⟨by decide,fun d h2 => by
  have : d ≤ 2 := Nat.le_of_dvd (by decide) h2;have : d ≠ 0 := fun h => by rw [h] at h2; have := Nat.eq_zero_of_zero_dvd h2; omega
  omega⟩
 m1 := by decide
 m8 := by decide
 hq := by decide
 hlen := by decide
 hmod := fun j => by
  match j with
  | 0 => decide
  | 1 => decide
  | j + 2 => simp
theorem irr4 : irrB D4.p D4.m (fun i => D4.mod.getD i 0) = true := by
 have e1 : ∀ v : Fin 2,dvB 2 1 2 (dg 2 v.val) (fun i => D4.mod.getD i 0) = false := by decide +kernel
 refine irrB_true fun d h1 h2 v hv => ?_
 have h3 : 2 * d ≤ 2 := h2;have h4 : d = 1 := by omega
 subst h4;exact e1 ⟨v,hv⟩
theorem good4 : Good D4.p D4.m (modL D4) := ⟨D4,rfl,rfl,rfl,.inr irr4⟩
end
section
open Go.RowKit Cw
attribute [local go_sem] Oper.semAt_some

theorem same39_refl (l : List Int) (A1 A2 : Option Addr) (c1 c2 : Nat) (w : World) (h1 : Rd w w.heap.size A1 l) (h2 : Rd w w.heap.size A2 l) (hl1 : l.length ≤ 1000000) :
  Calls Tryz.prog 117 #[.slice A1 l.length c1,.slice A2 l.length c2] w fun e w' => e = .returned (.bool true) ∧ Below w.heap.size w w' := by
 have h := same39_any l l A1 A2 c1 c2 w h1 h2 hl1 hl1;rw [decide_eq_true rfl] at h;exact h
def Two2 (w : World) (s : Nat) (v0 v1 u0 u1 : Value) : Prop := w.cell? ⟨s,0,none⟩ = some v0 ∧ w.cell? ⟨s,1,none⟩ = some v1 ∧ w.cell? ⟨s + 1,0,none⟩ = some u0 ∧ w.cell? ⟨s + 1,1,none⟩ = some u1
theorem Two2.keep {B s : Nat} {w w1 : World} {v0 v1 u0 u1 : Value} (h : Two2 w s v0 v1 u0 u1) (hb : Below B w w1) (hlt : s + 1 < B) : Two2 w1 s v0 v1 u0 u1 :=
 ⟨((bcell hb).1 s 0 (by omega)).trans h.1,((bcell hb).1 s 1 (by omega)).trans h.2.1,((bcell hb).1 (s + 1) 0 hlt).trans h.2.2.1,((bcell hb).1 (s + 1) 1 hlt).trans h.2.2.2⟩

set_option maxRecDepth 100000 in
set_option maxHeartbeats 4000000 in
theorem right39_ok (n : Nat) (c wl er : List Int) (t : Int) (hn : n ≤ 64) (hc : c.length = n) (hw : wl.length = n) (hrl : er.length ≤ 1000000) (ht : ((errL c wl er n).length : Int) ≤ t) (Ac Ae Aw Ar : Option Addr) (cc ce cw cr : Nat) (w : World) (hrc : Rd w w.heap.size Ac c) (hre : Rd w w.heap.size Ae (errL c wl er n)) (hrw : Rd w w.heap.size Aw wl) (hrr : Rd w w.heap.size Ar er) :
  Calls Tryz.prog 122 #[.agg #[.slice Ac n cc,.slice Ae (errL c wl er n).length ce],.agg #[.slice Aw n cw,.slice Ar er.length cr],.int .i64 t] w fun e w' => e = .returned (.bool true) ∧ Below w.heap.size w w' := by
 have hle := errL_le c wl er n;obtain ⟨s,hs⟩ : ∃ s,s = w.heap.size := ⟨_,rfl⟩;obtain ⟨m,hm⟩ : ∃ m,m = (errL c wl er n).length := ⟨_,rfl⟩;obtain ⟨Z,hZ⟩ : ∃ Z,Z = (w.alloc (.cells #[.slice Ac n cc,.slice Ae m ce] 90)).alloc (.cells #[.slice Aw n cw,.slice Ar er.length cr] 85) := ⟨_,rfl⟩;have hB : Below w.heap.size w Z := by rw [hZ]; exact ((Below.refl _ _).alloc (Nat.le_refl _) _).alloc (by simp) _
 have k0 : Hid (Z.cell? ⟨s,0,none⟩ = some (.slice Ac n cc) ∧ Z.cell? ⟨s,1,none⟩ = some (.slice Ae m ce) ∧ Z.cell? ⟨s + 1,0,none⟩ = some (.slice Aw n cw) ∧ Z.cell? ⟨s + 1,1,none⟩ = some (.slice Ar er.length cr)) := by unfold Hid; rw [hZ,hs]; simp [go_sem]
 have hZs : s + 1 < Z.heap.size := by rw [hZ,hs]; simp
 have hDf := fun W a b d => Differ39_any n c wl er hn hc hw hrl Ac Aw Ar cc cw cr W a b d
 have hSm := fun A2 c2 W a b => same39_refl (errL c wl er n) Ae A2 ce c2 W a b (by omega)
 rw [← hm] at hDf hSm ht hle;rw [← hm];have hmt : decide ((m : Int) ≤ t) = true := decide_eq_true ht;have hrcZ := (hrc.below hB).more hB.size;have hreZ := (hre.below hB).more hB.size;have hrwZ := (hrw.below hB).more hB.size;have hrrZ := (hrr.below hB).more hB.size;have hDfZ := hDf Z.drew hrcZ.drew hrwZ.drew hrrZ.drew;replace hDfZ := Lib.hid hDfZ;replace hSm := fun A2 c2 W a b => Lib.hid (hSm A2 c2 W a b)
 replace hZ := Lib.hid hZ;replace hm := Lib.hid hm;replace hc := Lib.hid hc;replace hw := Lib.hid hw;clear hDf hrc hre hrw hrr;go_enter Tryz.func122,Tryz.ntmps122;obtain ⟨q0,q1,q2,q3⟩ := k0.out;go_wp2_with (fail);rw [← hZ.out];simp only [← hs];replace hs := Lib.hid hs;clear q0 q1 q2 q3;go_wp2_with (fail);refine wp_region_held_drew (S := fun w' => w'.cell? ⟨s,0,none⟩ = some (.slice Ac n cc) ∧ w'.cell? ⟨s,1,none⟩ = some (.slice Ae m ce) ∧ w'.cell? ⟨s + 1,0,none⟩ = some (.slice Aw n cw) ∧ w'.cell? ⟨s + 1,1,none⟩ = some (.slice Ar er.length cr)) (by kernel_rfl) (by (try dsimp only); exact k0.out) (fun hHeld => ?_);refine tk 0 ?_; try simp only [pS]
 refine tk 1 ?_; try simp only [pS]
 refine tk 2 ?_; try simp only [pS]
 refine tk 3 ?_; try simp only [pS]
 refine tk 4 ?_; try simp only [pS]
 refine tk 5 ?_; try simp only [pS]
 refine tk 6 ?_; try simp only [pS]
 refine tk 7 ?_; try simp only [pS]
 refine tk 8 ?_; try simp only [pS]
 refine tk 9 ?_; try simp only [pS]
 refine tk 10 ?_; try simp only [pS]
 refine tk 11 ?_; try simp only [pS]
 refine tk 12 ?_; try simp only [pS]
 refine tk 13 ?_; try simp only [pS]
 refine tk 14 ?_; try simp only [pS]
 refine tk 15 ?_; try simp only [pS]
 refine rd 16 fun K hK => ?_
 go_simp;go_at_call 124;(with_reducible refine (hDfZ).out.mono ?_);rintro e w1 ⟨A1,c1,rfl,hr1,hx1⟩;have hb1 : Below Z.heap.size Z w1 := (Below.refl _ Z).drew.trans hx1;have hS1 := hSm A1 c1 w1 ((hreZ.below hb1).more hb1.size) hr1;go_wp2_with (fail);refine hK.out _ _ (by (try dsimp only); exact Two2.keep k0.out hb1 hZs) (fun hHeld => ?_);clear hK K;try simp only [pS]
 refine rd 17 fun K hK => ?_
 go_simp;go_at_call 117;(with_reducible refine (hS1).out.mono ?_);rintro e w2 ⟨rfl,hx2⟩;have hb2 := hb1.trans (hx2.mono hb1.size);go_wp2_with (fail);refine hK.out _ _ (by (try dsimp only); exact Two2.keep k0.out hb2 hZs) (fun hHeld => ?_);clear hK K;try simp only [pS]
 refine tk 18 ?_; try simp only [pS]
 refine tk 19 ?_; try simp only [pS]
 refine tk 20 ?_; try simp only [pS]
 refine tk 21 ?_; try simp only [pS]
 refine tk 22 ?_; try simp only [pS]
 refine tk 23 ?_; try simp only [pS]
 refine tk 24 ?_; try simp only [pS]
 refine tk 25 ?_; try simp only [pS]
 refine tk 26 ?_; try simp only [pS]
 refine wpAnyH_done (by kernel_rfl) ?_ _;go_wp2_with (fail);go_ret;exact ⟨rfl,hB.trans (hb2.mono hB.size)⟩

def pts39 : List Int := [0,1,2,3]
def mul39 : List Int := [1,1,1,1]
def wl39 : List Int := [1,1,1,0]
theorem chk39 : gchkD D4 2 pts39 mul39 = 0 := by decide +kernel
theorem el39 : elB D4 wl39 = true := by decide +kernel
theorem err39 : decErr D4 2 pts39 mul39 wl39 [] = 0 := by
 unfold decErr;rw [if_neg (fun h => h chk39)];exact recErr_ok rfl el39 (fun x hx => by cases hx) List.nodup_nil
theorem no39 : ¬ DecNo D4 2 pts39 mul39 wl39 [] := fun h => by
 have h1 := h [1,0] (by decide);have h2 : ¬ (4 : Nat) < 2 * (errL (wordL D4 pts39 mul39 [1,0]) wl39 [] 4).length + 0 + 2 := by decide +kernel
 exact h2 h1
def okB39 (x y : Nat) : Bool := !decide (2 * (errL (wordL D4 pts39 mul39 [(x : Int),(y : Int)]) wl39 [] 4).length + 0 + 2 ≤ 4) || (decide (wordL D4 pts39 mul39 [(x : Int),(y : Int)] = [1,1,1,1]) && decide (errL (wordL D4 pts39 mul39 [(x : Int),(y : Int)]) wl39 [] 4 = [3]))
theorem key39 : ∀ x y : Fin 4,okB39 x.val y.val = true := by decide +kernel
theorem q39 : (D4.q : Int) = 4 := by decide +kernel
theorem ok39_two (a b : Int) (ha : 0 ≤ a ∧ a < 4) (hb : 0 ≤ b ∧ b < 4) (h3 : 2 * (errL (wordL D4 pts39 mul39 [a,b]) wl39 [] 4).length + 0 + 2 ≤ 4) : wordL D4 pts39 mul39 [a,b] = [1,1,1,1] ∧ errL (wordL D4 pts39 mul39 [a,b]) wl39 [] 4 = [3] := by
 obtain ⟨x,rfl⟩ : ∃ x : Fin 4,a = (x.val : Int) := ⟨⟨a.toNat,by omega⟩,by show a = ((a.toNat : Nat) : Int); omega⟩;obtain ⟨y,rfl⟩ : ∃ y : Fin 4,b = (y.val : Int) := ⟨⟨b.toNat,by omega⟩,by show b = ((b.toNat : Nat) : Int); omega⟩;have k := key39 x y;unfold okB39 at k;generalize wordL D4 pts39 mul39 [(x.val : Int),(y.val : Int)] = u at *;rw [decide_eq_true h3] at k;simp only [Bool.not_true,Bool.false_or,Bool.and_eq_true,decide_eq_true_eq] at k;exact k
theorem two_get (msg : List Int) (h : msg.length = 2) : msg = [msg[0]?.getD 0,msg[1]?.getD 0] := by
 match msg,h with
 | [a,b],_ => rfl
theorem ok39 {msg : List Int} (h : DecOK D4 2 pts39 mul39 wl39 [] msg) : wordL D4 pts39 mul39 msg = [1,1,1,1] ∧ errL (wordL D4 pts39 mul39 msg) wl39 [] 4 = [3] := by
 obtain ⟨h1,h2,h3⟩ := h;have ha := elB_iff.1 h2 0 (by omega);have hb := elB_iff.1 h2 1 (by omega);rw [q39] at ha hb;have e := two_get msg h1;generalize msg[0]?.getD 0 = a at *;generalize msg[1]?.getD 0 = b at *;rw [e] at h3 ⊢;rw [show pts39.length = 4 from rfl,show ([] : List Int).length = 0 from rfl] at h3;exact ok39_two a b ha hb h3

theorem rd_lit (W : World) (l : List Int) : Rd (W.alloc (.cells (l.map (Value.int .i64)).toArray 3)) (W.heap.size + 1) (some ⟨W.heap.size,0,none⟩) l := by
 have h := rd_new W l;rw [World.size_alloc] at h;exact h

set_option maxRecDepth 100000 in
set_option maxHeartbeats 4000000 in
theorem alive39_any (w : World) : Calls Tryz.prog 51 #[] w fun e w' => e = .returned (.bool true) ∧ Below w.heap.size w w' := by
 obtain ⟨s,hs⟩ : ∃ s,s = w.heap.size := ⟨_,rfl⟩;obtain ⟨Z1,hZ1⟩ : ∃ Z1,Z1 = w.alloc (.cells #[.int .i64 1,.int .i64 1] 3) := ⟨_,rfl⟩;obtain ⟨Z2,hZ2⟩ : ∃ Z2,Z2 = Z1.alloc (.cells #[.int .i64 0,.int .i64 1,.int .i64 2,.int .i64 3] 3) := ⟨_,rfl⟩;obtain ⟨Z3,hZ3⟩ : ∃ Z3,Z3 = Z2.alloc (.cells #[.int .i64 1,.int .i64 1,.int .i64 1,.int .i64 1] 3) := ⟨_,rfl⟩;obtain ⟨Z4,hZ4⟩ : ∃ Z4,Z4 = Z3.alloc (.cells #[.int .i64 2,.int .i64 2,.slice (some ⟨s,0,none⟩) 2 2,.int .i64 2,.slice (some ⟨s + 1,0,none⟩) 4 4,.slice (some ⟨s + 2,0,none⟩) 4 4] 72) := ⟨_,rfl⟩;obtain ⟨Z5,hZ5⟩ : ∃ Z5,Z5 = Z4.alloc (.cells #[.int .i64 1,.int .i64 1,.int .i64 1,.int .i64 0] 3) := ⟨_,rfl⟩;have z1 : Z1.heap.size = s + 1 := by rw [hZ1,hs]; simp
 have z2 : Z2.heap.size = s + 2 := by rw [hZ2]; simp [z1]
 have z3 : Z3.heap.size = s + 3 := by rw [hZ3]; simp [z2]
 have z4 : Z4.heap.size = s + 4 := by rw [hZ4]; simp [z3]
 have z5 : Z5.heap.size = s + 5 := by rw [hZ5]; simp [z4]
 have b1 : Below s w Z1 := by rw [hZ1]; exact (Below.refl _ _).alloc (Nat.le_of_eq hs) _
 have b2 : Below (s + 1) Z1 Z2 := by rw [hZ2]; exact (Below.refl _ _).alloc (Nat.le_of_eq z1.symm) _
 have b3 : Below (s + 2) Z2 Z3 := by rw [hZ3]; exact (Below.refl _ _).alloc (Nat.le_of_eq z2.symm) _
 have b4 : Below (s + 3) Z3 Z4 := by rw [hZ4]; exact (Below.refl _ _).alloc (Nat.le_of_eq z3.symm) _
 have b5 : Below (s + 4) Z4 Z5 := by rw [hZ5]; exact (Below.refl _ _).alloc (Nat.le_of_eq z4.symm) _
 have r1 : Rd Z1 (s + 1) (some ⟨s,0,none⟩) [1,1] := by have h := rd_lit w [1,1]; rw [hZ1,hs]; exact h
 have r2 : Rd Z2 (s + 2) (some ⟨s + 1,0,none⟩) pts39 := by have h := rd_lit Z1 pts39; rw [z1] at h; rw [hZ2]; exact h
 have r3 : Rd Z3 (s + 3) (some ⟨s + 2,0,none⟩) mul39 := by have h := rd_lit Z2 mul39; rw [z2] at h; rw [hZ3]; exact h
 have r5 : Rd Z5 (s + 5) (some ⟨s + 4,0,none⟩) wl39 := by have h := rd_lit Z4 wl39; rw [z4] at h; rw [hZ5]; exact h
 have c35 := b4.trans (b5.mono (show s + 3 ≤ s + 4 by omega));have c25 := b3.trans (c35.mono (show s + 2 ≤ s + 3 by omega));have c15 := b2.trans (c25.mono (show s + 1 ≤ s + 2 by omega));have hB : Below s w Z5 := b1.trans (c15.mono (show s ≤ s + 1 by omega));have hmod : modL D4 = [1,1] := by decide
 have hG : Calls Tryz.prog 116 #[.agg #[.int .i64 2,.int .i64 2,.slice (some ⟨s,0,none⟩) 2 2,.int .i64 2,.slice (some ⟨s + 1,0,none⟩) 4 4,.slice (some ⟨s + 2,0,none⟩) 4 4],.slice (some ⟨s + 4,0,none⟩) 4 4,.slice none 0 0] Z5 (GrsPost D4 2 pts39 mul39 wl39 [] Z5) :=
  gGRS_D D4 2 pts39 mul39 (some ⟨s,0,none⟩) (some ⟨s + 1,0,none⟩) (some ⟨s + 2,0,none⟩) 2 4 4 wl39 [] (some ⟨s + 4,0,none⟩) none 4 0 Z5 (by rw [hmod,z5]; exact (r1.below c15).more (by omega)) good4 (by rw [z5]; exact (r2.below c25).more (by omega)) (by rw [z5]; exact (r3.below c35).more (by omega)) (by decide) (by decide) (by decide) (by rw [z5]; exact r5) (Rd.nil) (by decide) (by decide)
 replace hG := Lib.hid hG;clear r1 r2 r3 r5 c35 c25 c15 b1 b2 b3 b4 b5 z1 z2 z3 z4;go_enter Tryz.func51,Tryz.ntmps51;go_wp2_with (fail);rw [← hZ1];simp only [← hs];rw [← hZ2,← hZ3,show s + 1 + 1 = s + 2 from rfl,← hZ4,← hZ5,show s + 2 + 1 + 1 = s + 4 from rfl];replace hs := Lib.hid hs;replace z5 := Lib.hid z5;(with_reducible refine hG.out.mono ?_);rintro e w1 ⟨hb1,⟨hne,rfl⟩ | ⟨-,hno,rfl⟩ | ⟨-,msg,Ac,cc,Ae,ce,hdec,rfl,hrc,hre,-,-⟩⟩
 ·exact absurd err39 hne
 ·exact absurd hno no39
 obtain ⟨e1,e2⟩ := ok39 hdec;rw [show pts39.length = 4 from rfl,e2] at hre ⊢;rw [e1] at hrc;rw [show ([3] : List Int).length = 1 from rfl];clear hdec e1 e2 hZ1 hZ2 hZ3 hZ4 hZ5;obtain ⟨b,hbs⟩ : ∃ b,b = w1.heap.size := ⟨_,rfl⟩;obtain ⟨W2,hW2⟩ : ∃ W2,W2 = w1.alloc (.cells #[.slice Ac 4 cc,.slice Ae 1 ce] 90) := ⟨_,rfl⟩;have d2 : Duo W2 b (.slice Ac 4 cc) (.slice Ae 1 ce) := by rw [hW2,hbs]; exact Duo.new w1 _ _ _
 have s2 : W2.heap.size = b + 1 := by rw [hW2,hbs]; simp
 have b12 : Below w1.heap.size w1 W2 := by rw [hW2]; exact (Below.refl _ _).alloc (Nat.le_refl _) _
 obtain ⟨W3,hW3⟩ : ∃ W3,W3 = W2.alloc (.cells #[.int .i64 1,.int .i64 1,.int .i64 1,.int .i64 1] 3) := ⟨_,rfl⟩;have r3 : Rd W3 (b + 2) (some ⟨b + 1,0,none⟩) [1,1,1,1] := by have h := rd_lit W2 [1,1,1,1]; rw [s2] at h; rw [hW3]; exact h
 have s3 : W3.heap.size = b + 2 := by rw [hW3]; simp [s2]
 have b23 : Below (b + 1) W2 W3 := by rw [hW3]; exact (Below.refl _ _).alloc (Nat.le_of_eq s2.symm) _
 have hbw : w1.heap.size ≤ b + 1 := by omega
 have b13 := b12.trans (b23.mono hbw);have hS := same39_refl [1,1,1,1] Ac (some ⟨b + 1,0,none⟩) cc 4 W3 ((hrc.below b13).more b13.size) (by rw [s3]; exact r3) (by decide);rw [show ([1,1,1,1] : List Int).length = 4 from rfl] at hS;have d3 := Lib.hid (d2.keep b23 (Nat.lt_succ_self b));have hb3 : b + 1 < W3.heap.size := by omega
 have h5s : s ≤ Z5.heap.size := by have := z5.out; omega
 have hB3 : Below s w W3 := hB.trans ((hb1.mono h5s).trans (b13.mono (Nat.le_trans h5s hb1.size)));have hsw : Hid (s = w.heap.size) := hs;have hre3 := (hre.below b13).more b13.size;replace hS := Lib.hid hS;obtain ⟨q0,q1,-,-⟩ := d2;replace hW2 := Lib.hid hW2;replace hW3 := Lib.hid hW3;clear r3 b12 b23 b13 hrc hre hb1 hG;go_wp2_with (fail);rw [← hbs,← hW2.out];replace hbs := Lib.hid hbs;go_wp2_with (fail);rw [← hW3.out];clear q0 q1;(with_reducible refine hS.out.mono ?_);rintro e w4 ⟨rfl,hb4⟩;have hb34 := hb4;have s4 : b + 1 < w4.heap.size := Nat.lt_of_lt_of_le hb3 hb4.size;obtain ⟨m,hm⟩ : ∃ m,m = w4.heap.size := ⟨_,rfl⟩;obtain ⟨W5,hW5⟩ : ∃ W5,W5 = w4.alloc (.cells #[.int .i64 3] 3) := ⟨_,rfl⟩;have r5 : Rd W5 W5.heap.size (some ⟨m,0,none⟩) [3] := by rw [hW5,hm]; exact rd_new w4 [3]
 have b45 : Below w4.heap.size w4 W5 := by rw [hW5]; exact (Below.refl _ _).alloc (Nat.le_refl _) _
 have b35 := hb34.trans (b45.mono hb34.size);have hS2 := same39_refl [3] Ae (some ⟨m,0,none⟩) ce 1 W5 ((hre3.below b35).more b35.size) r5 (by decide);rw [show ([3] : List Int).length = 1 from rfl] at hS2;replace hS2 := Lib.hid hS2;have hR := fun W => Lib.hid (gRadius_any 3 0 W (by unfold I64; decide) (by unfold I64; decide))
 rw [show radI 3 0 = 1 from by decide] at hR;have hB5 : Below s w W5 := hB3.trans (b35.mono (Nat.le_trans (Nat.le_of_eq hsw.out) hB3.size));obtain ⟨q0,q1,-,-⟩ := d3.out.keep hb34 (Nat.lt_of_succ_lt hb3);replace hW5 := Lib.hid hW5;clear hre3 r5 b45 b35 s4 hb4 hb34;go_wp2_with (fail);rw [← hm,← hW5.out];replace hm := Lib.hid hm;clear q0 q1;(with_reducible refine hS2.out.mono ?_);rintro e w6 ⟨rfl,hb6⟩;go_wp2_with (fail);(with_reducible refine (hR _).out.mono ?_);rintro e w7 ⟨rfl,rfl⟩;have hB6 : Below s w w6 := hB5.trans (hb6.mono (Nat.le_trans (Nat.le_of_eq hsw.out) (by have := hB5.size; omega)));go_wp2_with (fail);go_ret;exact ⟨rfl,hsw.out ▸ hB6⟩
end
end Go.Proofs.YtjdoneanohhkmaaGreat
