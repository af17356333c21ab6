/- The program's Pow. The reference's power. Layer 7 of the reference: Frobenius, Divides, In. The reference of layer 7: Trace, Norm, Subfield, Conjugates. Layer 7 of the program: prime, isDegree, Frobenius, Degree. Layer 7 of the program: Degree, Sum, each, Trace, Norm. The program's Elements and layer 7's Subfield: a range over a function. Layer 7: Conjugates, of the program and of the reference. -/
import Derived.Deep.Onto
import Derived.LoopIn
import Derived.LoopNIn
import Derived.OwnWalkIn
import Derived.RangeFuncBound
import Derived.RangeFuncBox
import Derived.RangeFuncCalls
import Derived.RangeFuncLeaves
import Derived.RangeFuncNested
import Derived.Shelf.Abstract
import Derived.Shelf.RegionOpen
import Derived.TacticsInMore
import Derived.WalkKit
import Derived.Test.YtjdoneanohhkmaaGreatZrU07RRF
import Derived.Test.YtjdoneanohhkmaaGreatZrU07RGA
import Derived.Test.YtjdoneanohhkmaaGreatZrU07RAppZ
namespace Go.Proofs.YtjdoneanohhkmaaGreat
section
open Go.RowKit Cw

set_option maxHeartbeats 2000000 in
theorem gPow_any (D : FD) (x : Int) (n : Nat) (g : Nat) (w : World) (hg : GF w w.heap.size g D) (hn1 : 1 ≤ n) (hn2 : n ≤ 65536) :
  Calls Tryz.prog 259 #[.pointer (some ⟨g,0,none⟩),.int .i64 x,.int .i64 n] w fun e w' => e = .returned (.tuple #[.int .i64 (ci (pw (eli D.toDesc x) n)),.int .i64 0]) ∧ Below w.heap.size w w' := by
 have hq2 := D.q2; have hq3 := D.q256;have hix := gin_any D x g w hg;generalize eli D.toDesc x = u at *;replace hix := Lib.hid hix;have c3 := hg.c3;obtain ⟨Ae,ce,c4,re⟩ := hg.ex;obtain ⟨Al,cl,c5,rl⟩ := hg.lo;clear hg;have hu0 := ci_nonneg u; have hu1 := ci_lt u;have hnb : ((n : Int) == 0) = false := by rw [beq_eq_false_iff_ne]; omega
 by_cases hu : u = 0
 ·have hb : (ci u == 0) = true := by rw [beq_iff_eq]; exact ci_eq_zero.2 hu
  have hfin : Hid (ci (pw u n) = 0) := by unfold Hid; rw [hu,zero_pw (by omega),ci_zero]
  clear hu;go_enter Tryz.func259,Tryz.ntmps259;go_wp2_with (fail);refine hix.out.mono ?_;rintro e w1 ⟨rfl,rfl⟩;go_wp2_with (fail);go_ret2;exact ⟨by rw [hfin.out]; rfl,Below.refl _ _⟩
 ·have hb : (ci u == 0) = false := by rw [beq_eq_false_iff_ne]; exact fun h => hu (ci_eq_zero.1 h)
  obtain ⟨a,ha⟩ := Int.eq_ofNat_of_zero_le hu0;have ha2 : a < D.q := by omega
  have har : rel D.toDesc a = u := by rw [← rel_rcode u]; congr 1; unfold ci at ha; omega
  have hll : (lgl D).length = D.q := lst_length _ _;obtain ⟨bl,ol,rfl,hbl,hcl⟩ := rl (by rw [hll]; omega);have hea : (expl D).length = D.q - 1 := lst_length _ _;obtain ⟨be,oe,rfl,hbe,hce⟩ := re (by rw [hea]; omega);have hla := hcl a (by rw [hll]; exact ha2);rw [show (lgl D)[a]?.getD 0 = (lg D u : Nat) by unfold lgl; rw [lst_get _ ha2,har]] at hla;obtain ⟨i,hi⟩ : ∃ i,i = lg D u := ⟨_,rfl⟩;have hil : i < D.q - 1 := by rw [hi]; exact lg_lt _ _
  rw [← hi] at hla;obtain ⟨k,hk⟩ : ∃ k,D.q = k + 1 := ⟨D.q - 1,by omega⟩;have hk1 : 1 ≤ k := by omega
  have hk2 : k ≤ 255 := by omega
  obtain ⟨r,hr⟩ : ∃ r,r = n % k := ⟨_,rfl⟩;have hrk : r < k := by rw [hr]; exact Nat.mod_lt _ (by omega)
  obtain ⟨t,ht⟩ : ∃ t,t = i * r := ⟨_,rfl⟩;have htb : t ≤ 65536 := by rw [ht]; exact Nat.mul_le_mul (show i ≤ 256 by omega) (show r ≤ 256 by omega)
  obtain ⟨z,hz⟩ : ∃ z,z = t % k := ⟨_,rfl⟩;have hzk : z < k := by rw [hz]; exact Nat.mod_lt _ (by omega)
  have hex := hce z (by rw [hea]; omega);rw [show (expl D)[z]?.getD 0 = ci (pw D.g z) from lst_get _ (by omega)] at hex;have hkq : D.q - 1 = k := by omega
  have hpw : pw D.g z = pw u n := by
   have h1 := pw_gen_mod (F := R D.toDesc) t;have h2 : pw D.g z = pw D.g t := by rw [hz,← hkq]; exact h1
   have h3 := pw_mod (F := R D.toDesc) hu n;have h4 : pw u r = pw u n := by rw [hr,← hkq]; exact h3
   rw [h2,ht,pw_mul,hi,pw_lg D hu,h4]
  rw [hpw] at hex;rw [ha] at hb hix;rw [hkq] at c4;rw [hk] at c3 c5;have ee1 : Hid ((n : Int) % (k : Int) = (r : Int)) := by unfold Hid; rw [hr]; rfl
  have ee2 : Hid (((r : Int) + (k : Int)) % (k : Int) = (r : Int)) := by
   unfold Hid; rw [Int.add_emod_right]; exact Int.emod_eq_of_lt (by omega) (by omega)
  have ee3 : Hid ((i : Int) * (r : Int) = (t : Int)) := by unfold Hid; rw [ht,Int.natCast_mul]
  have ee4 : Hid ((t : Int) % (k : Int) = (z : Int)) := by unfold Hid; rw [hz]; rfl
  have ha3 : a < k + 1 := by omega
  have hik : i < k := by omega
  clear hcl hce ha hi har hpw hu hea hll hkq hr ht hz hk hq2 hq3 hu0 hu1 ha2 hil;have ee1' := ee1.out;have ee2' := ee2.out;go_enter Tryz.func259,Tryz.ntmps259;go_wp2_with (fail);refine hix.out.mono ?_;rintro e w1 ⟨rfl,rfl⟩;go_wp2_with (fail);clear ee1' ee2';rw [ee2.out];have i1 : (a : Int) < (k : Int) + 1 := by omega
  have i3 : (0 : Int) ≤ (t : Int) := by omega
  have i4 : (z : Int) < (k : Int) := by omega
  have hk0 : ¬ k = 0 := by omega
  have e1 := ee3.out;have e2 : IntKind.i64.wrap (t : Int) = (t : Int) := IntWalk.i64_in _ (by omega);have e3 : (t : Int).tmod (k : Int) = (z : Int) := (Int.tmod_eq_emod_of_nonneg i3).trans ee4.out;go_quiet (fail);clear e1 e2 e3;go_wp2_with (fail);go_ret2;exact ⟨rfl,below_drewN' (Below.refl _ _) _⟩
end
section
open Go.RowKit Cw
open Cw.CField (inv)
set_option maxHeartbeats 1000000 in
theorem Pow_any (D : FD) (x : Int) (n : Nat) (A : Option Addr) (c : Nat) (w : World) (hr : Rd w w.heap.size A (modL D.toDesc)) (hn1 : 1 ≤ n) (hn2 : n ≤ 4294967296) :
  Calls Tryz.prog 27 #[.agg #[.int .i64 D.p,.int .i64 D.m,.slice A D.mod.length c],.int .i64 x,.int .i64 n] w fun e w' =>
   e = .returned (.tuple #[.int .i64 (ci (pw (eli D.toDesc x) n)),.int .i64 0]) ∧ Below w.heap.size w w' := by
 have hq2 := D.q2; have hq3 := D.q256; have hp1 := D.p256; have hp2 := D.m8;have hM := fun y z w (hr : Rd w w.heap.size A (modL D.toDesc)) => Lib.hid (Mul_any D.toDesc y z A c w hr)
 have hI := fun w => Lib.hid (In_any D.toDesc x A D.mod.length c w)
 have hO := fun w => Lib.hid (Order_any D.p D.m A D.mod.length c w (by omega) (by omega))
 have hqq := qOf_D D.toDesc;obtain ⟨k,hk⟩ : ∃ k,D.q = k + 1 := ⟨D.q - 1,by omega⟩;rw [hk] at hqq;have hqq := Lib.hid hqq;generalize eli D.toDesc x = u at *;have hbx0 := Bx.new w D.toDesc A D.mod.length c 24;have hn0 : ((n : Int) == 0) = false := by rw [beq_eq_false_iff_ne]; omega
 by_cases hu : u = 0
 ·have hci : ci u = 0 := ci_eq_zero.2 hu;have hfin : Hid (ci (pw u n) = 0) := by unfold Hid; rw [hu,zero_pw (by omega),ci_zero]
  clear hu;go_enter Tryz.func27,Tryz.ntmps27;go_wp2_with (fail);refine (hI _).out.mono ?_;rw [hci];rintro e w1 ⟨rfl,hb1⟩;go_wp2_with (fail);go_ret2;exact ⟨by rw [hfin.out]; rfl,((Below.refl _ _).alloc (Nat.le_refl _) _).trans (hb1.mono (by simp))⟩
 ·have hci : (ci u == 0) = false := by rw [beq_eq_false_iff_ne]; exact fun h => hu (ci_eq_zero.1 h)
  have hfin : Hid (pw u (n % k) = pw u n) := by
   have h := pw_mod hu n
   show pw u (n % k) = _
   rw [show k = FF.q (R D.toDesc) - 1 by show k = D.q - 1; omega]; exact h
  have hk1 : 1 ≤ k := by omega
  have hk3 : k ≤ 255 := by omega
  have hlt := Nat.mod_lt n (show 0 < k by omega);clear hu hk hq2 hq3;go_enter Tryz.func27,Tryz.ntmps27;go_wp2_with (fail);refine (hI _).out.mono ?_;rintro e w1 ⟨rfl,hb1⟩;have hbx1 := hbx0.below hb1 (by simp);have kc := hbx1;obtain ⟨kc0,kc1,kc2⟩ := kc;have hs1 := hb1.size;simp only [World.size_alloc] at hs1;go_wp2_with (fail);refine (hO _).out.mono ?_;rw [hqq.out];rintro e w2 ⟨rfl,hb2⟩;have hbx2 := hbx1.below hb2 (by omega);have hs2 := hb2.size;have hbw2 : Below w.heap.size w w2 := (((Below.refl _ _).alloc (Nat.le_refl _) _).trans (hb1.mono (by simp))).trans (hb2.mono (by omega));clear kc0 kc1 kc2;go_wp2_with (fail);rw [show ((n : Int) % (k : Int) + (k : Int)) % (k : Int) = ((n % k : Nat) : Int) by rw [Int.add_emod_right,Int.emod_emod_of_dvd _ (Int.dvd_refl _)]; rfl];generalize n % k = r at *;have hr2 := hr.below hbw2;go_loopw [9,10] (fun o i wr => ∃ j : Nat,j ≤ r ∧ i = .int .i64 j ∧ o = .int .i64 (ci (pw u j)) ∧ Bx wr w.heap.size D.toDesc A D.mod.length c ∧ Below w.heap.size w wr ∧ w.heap.size < wr.heap.size) (fun _ i _ => r - (intOf i).toNat)
  case atStart => exact ⟨0,by omega,rfl,by rw [pw_zero,ci_one],hbx2,hbw2,by omega⟩
  case round =>
   obtain ⟨j,hj,rfl,rfl,hbx,hbw,hsz⟩ := hrel;have kc := hbx;obtain ⟨kc0,kc1,kc2⟩ := kc;by_cases hlt2 : j < r
   ·have hM2 := hM (ci (pw u j)) (ci u) wr ((hr.below hbw).more (by omega));rw [eli_ci,eli_ci] at hM2;have hM2 := Lib.hid hM2.out;go_wp2_with (fail);refine hM2.out.mono ?_;rintro e w3 ⟨rfl,hb3⟩;go_wp2_with (fail);go_roundw
    case rel => exact ⟨j + 1,by omega,by go_num,rfl,hbx.below hb3 hsz,hbw.trans (hb3.mono (by omega)),by have := hb3.size; omega⟩
    case measure => simp [intOf]; omega
   ·obtain rfl : j = r := by omega
    go_wp2_with (fail);go_ret2;exact ⟨by rw [← hfin.out]; rfl,hbw⟩
end
section
open Go.RowKit Cw
set_option maxHeartbeats 1000000 in
theorem Frob7_any (D : FD) (x : Int) (k : Nat) (A : Option Addr) (c : Nat) (w : World) (hr : Rd w w.heap.size A (modL D.toDesc)) (hk : k ≤ 4294967296) :
  Calls Tryz.prog 190 #[.agg #[.int .i64 D.p,.int .i64 D.m,.slice A D.mod.length c],.int .i64 x,.int .i64 k] w fun e w' =>
   e = .returned (.int .i64 (ci (frob k (eli D.toDesc x)))) ∧ Below w.heap.size w w' := by
 have hp0 := D.p2; have hp1 := D.p256; have hp2 := D.m8;have hI := fun w => Lib.hid (In_any D.toDesc x A D.mod.length c w)
 have hP := fun y w (hr : Rd w w.heap.size A (modL D.toDesc)) => Lib.hid (Pow_any D y D.p A c w hr (by omega) (by omega))
 generalize eli D.toDesc x = u at *;have hbx0 := Bx.new w D.toDesc A D.mod.length c 24;go_enter Tryz.func190,Tryz.ntmps190;go_wp2_with (fail);refine (hI _).out.mono ?_;rintro e w1 ⟨rfl,hb1⟩;have hbx1 := hbx0.below hb1 (by simp);have hs1 := hb1.size;simp only [World.size_alloc] at hs1;have hbw1 : Below w.heap.size w w1 := ((Below.refl _ _).alloc (Nat.le_refl _) _).trans (hb1.mono (by simp));go_wp2_with (fail);go_loopw [1,7] (fun o i wr => ∃ j : Nat,j ≤ k ∧ i = .int .i64 j ∧ o = .int .i64 (ci (frob j u)) ∧ Bx wr w.heap.size D.toDesc A D.mod.length c ∧ Below w.heap.size w wr ∧ w.heap.size < wr.heap.size) (fun _ i _ => k - (intOf i).toNat)
 case atStart => exact ⟨0,by omega,rfl,by rw [frob_zero_k],hbx1,hbw1,by omega⟩
 case round =>
  obtain ⟨j,hj,rfl,rfl,hbx,hbw,hsz⟩ := hrel;have kc := hbx;obtain ⟨kc0,kc1,kc2⟩ := kc;by_cases hlt2 : j < k
  ·have hM2 := hP (ci (frob j u)) wr ((hr.below hbw).more (by omega));rw [eli_ci] at hM2;have hM2 := Lib.hid hM2.out;have hfs : Hid (pw (frob j u) D.p = frob (j + 1) u) := (frob_succ j u).symm;go_wp2_with (fail);refine hM2.out.mono ?_;rw [hfs.out];rintro e w3 ⟨rfl,hb3⟩;go_wp2_with (fail);go_roundw
   case rel => exact ⟨j + 1,by omega,by go_num,rfl,hbx.below hb3 hsz,hbw.trans (hb3.mono (by omega)),by have := hb3.size; omega⟩
   case measure => simp [intOf]; omega
  ·obtain rfl : j = k := by omega
   go_wp2_with (fail);go_ret;exact ⟨rfl,hbw⟩

def divB (m : Nat) (d : Int) : Bool := decide (1 ≤ d ∧ d ≤ (m : Int) ∧ (m : Int) % d = 0)
theorem divB_nat {m : Nat} {d : Int} (h : divB m d = true) : ∃ k : Nat,d = k ∧ 1 ≤ k ∧ k ≤ m ∧ k ∣ m := by
 have h := of_decide_eq_true h;obtain ⟨k,rfl⟩ := Int.eq_ofNat_of_zero_le (show 0 ≤ d by omega);refine ⟨k,rfl,by omega,by omega,?_⟩;exact Int.natCast_dvd_natCast.1 (Int.dvd_of_emod_eq_zero h.2.2)
theorem divB_of {m k : Nat} (h1 : 1 ≤ k) (h2 : k ∣ m) (hm : 1 ≤ m) : divB m k = true :=
 decide_eq_true ⟨by omega,by have := Nat.le_of_dvd hm h2; omega,Int.emod_eq_zero_of_dvd (Int.natCast_dvd_natCast.2 h2)⟩

end
section
open Go.RowKit Cw
open Cw.CField (inv)

noncomputable def frobs {D : FD} (d : Nat) (u : R D.toDesc) (n : Nat) : List Int := lst n fun i => ci (frob (d * i) u)

set_option maxHeartbeats 1000000 in
theorem Trace7_any (D : FD) (x : Int) (d : Nat) (A : Option Addr) (c : Nat) (w : World) (hr : Rd w w.heap.size A (modL D.toDesc)) (hd1 : 1 ≤ d) (hd2 : d ≤ 8) :
  Calls Tryz.prog 127 #[.agg #[.int .i64 D.p,.int .i64 D.m,.slice A D.mod.length c],.int .i64 x,.int .i64 d] w fun e w' =>
   e = .returned (.int .i64 (ci (tr d (eli D.toDesc x)))) ∧ Below w.heap.size w w' := by
 have hp0 := D.p2; have hp1 := D.p256; have hp2 := D.m8;have hF : ∀ (j : Nat) (w : World),Rd w w.heap.size A (modL D.toDesc) → j ≤ 8 → Hid (Calls Tryz.prog 190 #[.agg #[.int .i64 D.p,.int .i64 D.m,.slice A D.mod.length c],.int .i64 x,.int .i64 ((d : Int) * (j : Int))] w fun e w' =>
   e = .returned (.int .i64 (ci (frob (d * j) (eli D.toDesc x)))) ∧ Below w.heap.size w w') := fun j w hr hj => by
  have h := Frob7_any D x (d * j) A c w hr (by have := Nat.mul_le_mul hd2 hj; omega);rw [Int.natCast_mul] at h; exact h
 have hA := fun y z w => Lib.hid (Add_any D.toDesc y z A D.mod.length c w)
 have hN : D.m / d ≤ 8 := Nat.le_trans (Nat.div_le_self _ _) hp2;obtain ⟨N,hNe⟩ : ∃ N,N = D.m / d := ⟨_,rfl⟩;rw [← hNe] at hN;have hdiv : (D.m : Int) / (d : Int) = (N : Int) := by rw [hNe]; rfl
 have hfin : ∀ u : R D.toDesc,Hid (rsum N (fun i => frob (d * i) u) = tr d u) := fun u => by unfold Hid tr; rw [hNe]; rfl
 clear hNe;generalize eli D.toDesc x = u at *;have hbx0 := Bx.new w D.toDesc A D.mod.length c 24;go_enter Tryz.func127,Tryz.ntmps127;go_wp2_with (fail);go_loopw [7,8] (fun o i wr => ∃ j : Nat,j ≤ N ∧ i = .int .i64 j ∧ o = .int .i64 (ci (rsum j (fun i => frob (d * i) u))) ∧ Bx wr w.heap.size D.toDesc A D.mod.length c ∧ Below w.heap.size w wr ∧ w.heap.size < wr.heap.size) (fun _ i _ => N - (intOf i).toNat)
 case atStart => exact ⟨0,by omega,rfl,by rw [rsum_zero,ci_zero],hbx0,(Below.refl _ _).alloc (Nat.le_refl _) _,by simp⟩
 case round =>
  obtain ⟨j,hj,rfl,rfl,hbx,hbw,hsz⟩ := hrel;have kc := hbx;obtain ⟨kc0,kc1,kc2⟩ := kc;by_cases hlt2 : j < N
  ·obtain ⟨hm1,hm2⟩ : (0 : Int) ≤ (d : Int) * (j : Int) ∧ (d : Int) * (j : Int) ≤ 64 := by
    have h1 := Nat.mul_le_mul hd2 (show j ≤ 8 by omega);have h2 : ((d * j : Nat) : Int) = (d : Int) * (j : Int) := by simp
    omega
   have hF2 := fun w hr => hF j w hr (by omega)
   have hA2 := hA (ci (rsum j fun i => frob (d * i) u)) (ci (frob (d * j) u));rw [eli_ci,eli_ci] at hA2;have hbx' := Lib.hid hbx;have hr2 := Lib.hid ((hr.below hbw).more (Nat.le_of_lt hsz));have ew : IntKind.i64.wrap ((d : Int) * (j : Int)) = (d : Int) * (j : Int) := IntWalk.i64_in _ (by omega);clear hbx;go_wp2_with (fail);go_region_held3 (fun w' => w'.cell? ⟨w.heap.size,0,none⟩ = some (.int .i64 D.p) ∧ w'.cell? ⟨w.heap.size,1,none⟩ = some (.int .i64 D.m) ∧ w'.cell? ⟨w.heap.size,2,none⟩ = some (.slice A D.mod.length c)) (first | exact hbx'.out | exact hbx1.out | exact hbx2.out)
    (first
     | (go_at_call 190; refine (hF2 _ hr2.out.drew).out.mono ?_; rintro e w1 ⟨rfl,hb1⟩; have hbx1 := Lib.hid (hbx'.out.drew.below hb1 hsz); have hs1 := hb1.size)
     | (go_at_call 96; refine (hA2 _).out.mono ?_; rintro e w2 ⟨rfl,hb2⟩; have hbx2 := Lib.hid (hbx1.out.below hb2 (Nat.lt_of_lt_of_le hsz hs1))))
   clear ew;go_wp2_with (fail);go_roundw
   case rel => exact ⟨j + 1,by omega,by go_num,rfl,hbx2.out,hbw.drew.trans ((hb1.mono (Nat.le_of_lt hsz)).trans (hb2.mono (Nat.le_trans (Nat.le_of_lt hsz) hs1))),Nat.lt_of_lt_of_le hsz (Nat.le_trans hs1 hb2.size)⟩
   case measure => simp [intOf]; omega
  ·obtain rfl : j = N := by omega
   go_wp2_with (fail);go_ret;exact ⟨ret_int (by rw [(hfin u).out]),hbw⟩
end
section
open Go.RowKit Cw

set_option maxHeartbeats 1000000 in
theorem tprime_any (D : FD) (g : Nat) (w : World) (hg : GF w w.heap.size g D) :
  Calls Tryz.prog 213 #[.pointer (some ⟨g,0,none⟩)] w fun e w' => e = .returned (.tuple #[.int .i64 D.p,.int .i64 D.m]) ∧ Below w.heap.size w w' := by
 have hF := Lib.hid (gField_any D g w hg);clear hg;go_enter Tryz.func213,Tryz.ntmps213;go_wp2_with (fail);refine hF.out.mono ?_;rintro e w1 ⟨A3,c3,rfl,hr,hA,hb1⟩;have hs1 := hb1.size;go_wp2_with (fail);go_quiet (fail);go_wp2_with (fail);go_ret2;exact ⟨rfl,below_drewN' (hb1.alloc hs1 _) _⟩

set_option maxHeartbeats 1000000 in
theorem isDegree_any (D : FD) (d : Int) (g : Nat) (w : World) (hg : GF w w.heap.size g D) :
  Calls Tryz.prog 209 #[.pointer (some ⟨g,0,none⟩),.int .i64 d] w fun e w' => e = .returned (.bool (divB D.m d)) ∧ Below w.heap.size w w' := by
 have hp2 := D.m8;have hP := Lib.hid (tprime_any D g w hg);clear hg;by_cases h1 : 1 ≤ d
 ·by_cases h2 : d ≤ D.m
  ·by_cases h3 : (D.m : Int) % d = 0
   ·have hb : ((D.m : Int) % d == 0) = true := beq_iff_eq.2 h3;have hfin : Hid (divB D.m d = true) := decide_eq_true ⟨h1,h2,h3⟩;clear h3;go_enter Tryz.func209,Tryz.ntmps209;go_wp2_with (go_at_call 213; refine hP.out.mono ?_; rintro e w1 ⟨rfl,hb1⟩);go_ret;exact ⟨ret_bool hfin.out.symm,hb1⟩
   ·have hb : ((D.m : Int) % d == 0) = false := beq_eq_false_iff_ne.2 h3;have hfin : Hid (divB D.m d = false) := decide_eq_false fun h => h3 h.2.2
    clear h3;go_enter Tryz.func209,Tryz.ntmps209;go_wp2_with (go_at_call 213; refine hP.out.mono ?_; rintro e w1 ⟨rfl,hb1⟩);go_ret;exact ⟨ret_bool hfin.out.symm,hb1⟩
  ·have hfin : Hid (divB D.m d = false) := decide_eq_false fun h => h2 h.2.1
   go_enter Tryz.func209,Tryz.ntmps209;go_wp2_with (go_at_call 213; refine hP.out.mono ?_; rintro e w1 ⟨rfl,hb1⟩);go_ret;exact ⟨ret_bool hfin.out.symm,hb1⟩
 ·have hfin : Hid (divB D.m d = false) := decide_eq_false fun h => h1 h.1
  go_enter Tryz.func209,Tryz.ntmps209;go_wp2_with (go_at_call 213; refine hP.out.mono ?_; rintro e w1 ⟨rfl,hb1⟩);go_ret;exact ⟨ret_bool hfin.out.symm,hb1⟩

def kmod (m : Nat) (k : Int) : Nat := (k % (m : Int)).toNat
theorem kmod_eq {m : Nat} (hm : 1 ≤ m) (k : Int) : (k.tmod m + m).tmod m = (kmod m k : Int) := by
 have h1 : (0 : Int) < m := by omega
 have h2 := Int.emod_nonneg k (show (m : Int) ≠ 0 by omega);have h3 := Int.emod_lt_of_pos k h1;have e : (kmod m k : Int) = k % (m : Int) := Int.toNat_of_nonneg h2;rw [e];have h5 := Int.lt_tmod_of_pos k h1;rw [Int.tmod_eq_emod_of_nonneg (by omega),Int.add_emod_right];rw [Int.tmod_eq_emod]
 split <;> simp

set_option maxHeartbeats 1000000 in
theorem tFrob_any (D : FD) (x k : Int) (g : Nat) (w : World) (hg : GF w w.heap.size g D) (_hk1 : -9223372036854775808 ≤ k) (_hk2 : k ≤ 9223372036854775807) :
  Calls Tryz.prog 247 #[.pointer (some ⟨g,0,none⟩),.int .i64 x,.int .i64 k] w fun e w' => e = .returned (.int .i64 (ci (frob (kmod D.m k) (eli D.toDesc x)))) ∧ Below w.heap.size w w' := by
 have hp2 := D.m8; have hm1 := D.m1; have hpp := D.p2; have hp3 := D.p256;have hP := Lib.hid (tprime_any D g w hg);have hkm := kmod_eq hm1 k;have hkl : kmod D.m k ≤ 8 := by
  have h3 := Int.emod_lt_of_pos k (show (0 : Int) < D.m by omega);unfold kmod; omega
 have hW := fun y W hg => Lib.hid (gPow_any D y D.p g W hg (by omega) (by omega))
 have hA := fun y W hg => Lib.hid (gAdd_any D y 0 g W hg)
 have htl := Int.lt_tmod_of_pos k (show (0 : Int) < D.m by omega);have htu : k.tmod D.m < D.m := Int.tmod_lt_of_pos k (by omega);generalize kmod D.m k = K at *;go_enter Tryz.func247,Tryz.ntmps247;go_wp2_with (fail);refine hP.out.mono ?_;rintro e w1 ⟨rfl,hb1⟩;go_wp2_with (fail)

 have hs1 := hb1.size;have hg1 := (hg.below hb1).more hs1;replace hkm := Lib.hid hkm;clear htl htu hP;go_loopw [1,21,23] (fun y i _ wr => ∃ j : Nat,∃ z : Int,j ≤ K ∧ i = .int .i64 j ∧ y = .int .i64 z ∧ Hid (eli D.toDesc z = frob j (eli D.toDesc x)) ∧ Below w.heap.size w wr ∧ Hid (GF wr wr.heap.size g D)) (fun _ i _ _ => K - (intOf i).toNat)
 case atStart => exact ⟨0,x,by omega,rfl,rfl,(frob_zero_k _).symm,hb1,hg1⟩
 case round =>
  obtain ⟨j,z,hj,rfl,rfl,hz,hbw,hgr⟩ := hrel;by_cases hlt : j < K
  ·have hW2 := Lib.hid (hW z wr hgr.out).out;have hz2 : Hid (eli D.toDesc (ci (pw (eli D.toDesc z) D.p)) = frob (j + 1) (eli D.toDesc x)) := by
    unfold Hid; rw [eli_ci,hz.out]; exact (frob_succ j _).symm
   go_wp2_with (fail);refine hW2.out.mono ?_;rintro e w2 ⟨rfl,hb2⟩;go_wp2_with (fail);go_roundw
   case rel => exact ⟨j + 1,_,by omega,by go_num,rfl,hz2,hbw.trans (hb2.mono hbw.size),(hgr.out.below hb2).more hb2.size⟩
   case measure => simp [intOf]; omega
  ·obtain rfl : j = K := by omega
   have hA2 := Lib.hid (hA z wr hgr.out).out;have hfin : Hid (ci (eli D.toDesc z + eli D.toDesc 0) = ci (frob j (eli D.toDesc x))) := by
    unfold Hid; rw [eli_zero,add_zero,hz.out]
   go_wp2_with (fail);refine hA2.out.mono ?_;rintro e w2 ⟨rfl,hb2⟩;go_wp2_with (fail);go_ret;exact ⟨ret_int hfin.out,hbw.trans (hb2.mono hbw.size)⟩
end
section
open Go.RowKit Cw

theorem kmod_nat (m d : Nat) : kmod m (d : Int) = d % m := by
 unfold kmod; rw [← Int.natCast_emod]; exact Int.toNat_natCast _
theorem frob_kmod (D : FD) (d : Nat) (u : R D.toDesc) : frob (kmod D.m (d : Int)) u = frob d u := by
 rw [kmod_nat]; exact frob_mod (F := R D.toDesc) d u

set_option maxHeartbeats 1000000 in
theorem teach_any (D : FD) (x : Int) (d : Nat) (g : Nat) (w : World) (hg : GF w w.heap.size g D) (hd1 : 1 ≤ d) (hd2 : d ≤ 8) :
  Calls Tryz.prog 210 #[.pointer (some ⟨g,0,none⟩),.int .i64 x,.int .i64 d] w fun e w' =>
   ∃ g1,e = .returned (.slice (some ⟨g1,0,none⟩) (D.m / d) (D.m / d)) ∧ w.heap.size ≤ g1 ∧ IB w' g1 (frobs d (eli D.toDesc x) (D.m / d)) ∧ Below w.heap.size w w' := by
 have hm8 := D.m8; have hm1 := D.m1;have hN : D.m / d ≤ 8 := Nat.le_trans (Nat.div_le_self _ _) hm8;obtain ⟨N,hNe⟩ : ∃ N,N = D.m / d := ⟨_,rfl⟩;rw [← hNe] at hN ⊢;have hdiv : (D.m : Int) / (d : Int) = (N : Int) := by rw [hNe]; rfl
 have hmk := mk_ints N (by omega);have hP := Lib.hid (tprime_any D g w hg);have hF := fun y W hg => Lib.hid (tFrob_any D y d g W hg (by omega) (by omega))
 have hA := fun W hg => Lib.hid (gAdd_any D x 0 g W hg)
 generalize hu : eli D.toDesc x = u at *;rw [eli_zero,add_zero] at hA;clear hu hNe;go_enter Tryz.func210,Tryz.ntmps210;go_wp2_with (fail);refine hP.out.mono ?_;rintro e w1 ⟨rfl,hb1⟩;have hg1 := (hg.below hb1).more hb1.size;go_wp2_with (fail);have hA2 := hA (w1.alloc (.cells (Array.replicate N (Value.int .i64 0)) 3)) ((hg1.below ((Below.refl _ _).alloc (Nat.le_refl _) _)).more (by simp));refine hA2.out.mono ?_;rintro e w2 ⟨rfl,hb2⟩;obtain ⟨g1,hg1e⟩ : ∃ t,t = w1.heap.size := ⟨_,rfl⟩;have hib : IB w2 g1 (upd N 0 (fun i => ci (frob (d * i) u))) := by
  rw [upd_zero,hg1e]; exact (IB.newz w1 N).below hb2 (by simp)
 have hbw2 : Below w.heap.size w w2 := (hb1.alloc hb1.size _).trans (hb2.mono (by have := hb1.size; simp; omega));have hg2 := (hg.below hbw2).more hbw2.size;have hgl : w.heap.size ≤ g1 := by rw [hg1e]; exact hb1.size
 rw [← hg1e];clear hg1e hA2 hA hP hmk hb1 hb2 hg1;go_wp2_with (fail);clear hdiv;go_loopw [26,11,10] (fun i _ y wr => ∃ k : Nat,k ≤ N ∧ i = .int .i64 k ∧ y = .int .i64 (ci (frob (d * k) u)) ∧ IB wr g1 (upd N k (fun i => ci (frob (d * i) u))) ∧ Below w.heap.size w wr) (fun i _ _ _ => N - (intOf i).toNat)
 case atStart => exact ⟨0,by omega,rfl,by rw [Nat.mul_zero,frob_zero_k],hib,hbw2⟩
 case round =>
  clear hib;obtain ⟨k,hk,rfl,rfl,hib,hbw⟩ := hrel;by_cases hlt : k < N
  ·have hc := hib.cell (i := k) (by rw [upd_length]; exact hlt);have hf := hib.frozen k;have hset := hib.set_ k (ci (frob (d * k) u));rw [upd_set N k (fun i => ci (frob (d * i) u))] at hset;replace hset := Lib.hid hset;have hbs : Below w.heap.size w (wr.setCell ⟨g1,k,none⟩ (.int .i64 (ci (frob (d * k) u)))) := hbw.setCell (p := ⟨g1,k,none⟩) hgl _;have hF2 := (hF (ci (frob (d * k) u)) _ ((hg.below hbs).more hbs.size)).out;rw [eli_ci,frob_kmod,frob_frob,show d + d * k = d * (k + 1) by rw [Nat.mul_succ]; omega] at hF2;replace hF2 := Lib.hid hF2;have hgk := hib.lt;clear hib;go_wp2_with (fail);refine hF2.out.mono ?_;rintro e w3 ⟨rfl,hb3⟩;go_wp2_with (fail);go_roundw
   case rel => exact ⟨k + 1,by omega,by go_num,rfl,hset.out.below hb3 (by simpa [World.setCell] using hgk),hbs.trans (hb3.mono hbs.size)⟩
   case measure => simp [intOf]; omega
  ·obtain rfl : k = N := by omega
   rw [upd_full] at hib;go_wp2_with (fail);go_ret;exact ⟨g1,rfl,hgl,hib,hbw⟩

end
section
open Go.RowKit Go.Shelf Cw
attribute [local go_sem] Oper.semAt_some

def upI (k : Nat) : List Int := (List.range k).map fun i : Nat => (i : Int)
theorem upI_succ (k : Nat) : upI (k + 1) = upI k ++ [(k : Int)] := by simp [upI,List.range_succ]

set_option maxRecDepth 100000 in
set_option maxHeartbeats 1000000 in
theorem elements_in (F : Fence) (n : Nat) (h5 : F.fn 248) (hro : F.round = none) (g : Nat) (w : World) :
  CallsIn F n Tryz.prog 248 #[.pointer (some ⟨g,0,none⟩)] w fun e w' =>
   e = .returned (.func (.func 260) #[] #[.pointer (some ⟨w.heap.size,0,none⟩)]) ∧ w' = w.alloc (.cells #[.pointer (some ⟨g,0,none⟩)] 105) := by
 refine callsIn_of_wp Tryz.func248 rfl h5 ?_ hro;simp only [Tryz.ntmps248,List.size_toArray,List.length_cons,List.length_nil,Nat.reduceAdd,Nat.reduceSub,Array.replicate_succ,Array.replicate_zero,List.push_toArray,List.append_toArray,List.nil_append,List.cons_append]
 gi_wp2
 go_ret;exact ⟨rfl,rfl⟩

set_option maxRecDepth 100000 in
set_option maxHeartbeats 1000000 in
theorem elements1_in (F : Fence) (n : Nat) (h6 : F.fn 260) (hro : F.round = none) (hn : 1 ≤ n) (l Bn n₀ g : Nat) (D : FD) (J Jx : List Int → World → Prop)
  (hY : ∀ pre x W,J pre W → pre.length < D.q → YieldAt F (n - 1) Tryz.prog l #[.int .i64 x] W fun e W' =>
   (e = .returned (.bool true) ∧ J (pre ++ [x]) W' ∧ Below n₀ W W') ∨ (e = .returned (.bool false) ∧ Jx (pre ++ [x]) W'))
  (W : World) (hBn : W.cell? ⟨Bn,0,none⟩ = some (.pointer (some ⟨g,0,none⟩))) (hq : W.cell? ⟨g,3,none⟩ = some (.int .i64 D.q)) (h0 : J [] W) :
  CallsIn F n Tryz.prog 260 #[.func (.yield l) #[] #[],.pointer (some ⟨Bn,0,none⟩)] W fun e W' => (∃ v,e = .returned v) ∧
   ((∃ ys,ys = upI D.q ∧ J ys W') ∨ (∃ pre,pre <+: upI D.q ∧ Jx pre W')) := by
 have hq3 := D.q256;refine callsIn_of_wp Tryz.func260 rfl h6 ?_ hro;simp only [Tryz.ntmps260,List.size_toArray,List.length_cons,List.length_nil,Nat.reduceAdd,Nat.reduceSub,Array.replicate_succ,Array.replicate_zero,List.push_toArray,List.append_toArray,List.nil_append,List.cons_append]
 gi_wp2
 gi_loopw [8,3] (fun i _ wr => ∃ k : Nat,k ≤ D.q ∧ i = .int .i64 k ∧ J (upI k) wr) (fun i _ _ => D.q - (intOf i).toNat)
 case atStart => exact ⟨0,by omega,rfl,h0⟩
 case round =>
  obtain ⟨k,hk,rfl,hJs⟩ := hrel;by_cases hlt : k < D.q
  ·obtain ⟨fn,tmps,assign,body,hy,hR⟩ := hY (upI k) (k : Int) wr hJs (by simp [upI]; exact hlt)
   gi_wp2
   refine hR.mono ?_;rintro e W3 (⟨rfl,hJ3,hk3⟩ | ⟨rfl,hJx3⟩)
   ·gi_wp2
    go_roundw
    case rel => exact ⟨k + 1,by omega,by go_num,by rw [upI_succ]; exact hJ3⟩
    case measure => simp [intOf]; omega
   ·gi_wp2
    refine bodyPost_ret (results_none rfl _ _ _) rfl ?_;refine ⟨⟨_,rfl⟩,.inr ⟨_,?_,hJx3⟩⟩;rw [← upI_succ];obtain ⟨t,ht⟩ : ∃ t,D.q = k + 1 + t := ⟨D.q - k - 1,by omega⟩;rw [ht];exact ⟨(List.range t).map fun i : Nat => ((k + 1 + i : Nat) : Int),by
     unfold upI
     conv => rhs; rw [List.range_add,List.map_append,List.map_map]
     rfl⟩
  ·obtain rfl : k = D.q := by omega
   gi_wp2
   go_end0;exact ⟨⟨_,rfl⟩,.inl ⟨_,rfl,hJs⟩⟩

theorem elements_stops (F : Fence) (n : Nat) (h6 : F.fn 260) (hro : F.round = none) (hn : 1 ≤ n) (Bn n₀ g : Nat) (D : FD) (w : World) (hBn : Bn < w.heap.size) (hn₀ : n₀ ≤ w.heap.size) (hgl : g < n₀)
  (hc : w.cell? ⟨Bn,0,none⟩ = some (.pointer (some ⟨g,0,none⟩))) (hq : w.cell? ⟨g,3,none⟩ = some (.int .i64 D.q)) :
  SeqStopsK F n Tryz.prog 260 #[.pointer (some ⟨Bn,0,none⟩)] (fun x : Int => #[Value.int .i64 x]) (Below n₀) (fun ys => ys = upI D.q) (fun pre => pre <+: upI D.q) D.q w := fun l J Jx W hW _ _ hY h0 =>
 elements1_in F n h6 hro hn l Bn n₀ g D J Jx hY W ((hW.cell (p := ⟨Bn,0,none⟩) hBn).trans hc) ((hW.cell (p := ⟨g,3,none⟩) (Nat.lt_of_lt_of_le hgl hn₀)).trans hq) h0
end
section
open Go.RowKit Go.Shelf Cw
attribute [local go_sem] Oper.semAt_some

def IsPer {D : FD} (d : Nat) (u : R D.toDesc) (n : Nat) : Prop := 1 ≤ n ∧ frob (d * n) u = u ∧ ∀ j,1 ≤ j → j < n → frob (d * j) u ≠ u
theorem IsPer.dvd {D : FD} {d n : Nat} {u : R D.toDesc} (h : IsPer d u n) {k : Nat} (hk : frob (d * k) u = u) : n ∣ k := by
 have h1 : frob (d * (k % n)) u = u := by
  have e : frob (d * (k % n)) (frob (d * n * (k / n)) u) = frob (d * k) u := by
   rw [frob_frob,Nat.mul_assoc,← Nat.mul_add,Nat.mod_add_div]
  rw [frob_fix_mul h.2.1,hk] at e;exact e
 rcases Nat.eq_zero_or_pos (k % n) with h0 | h0
 ·exact Nat.dvd_of_mod_eq_zero h0
 ·exact absurd h1 (h.2.2 _ h0 (Nat.mod_lt _ h.1))
theorem IsPer.dvd_M {D : FD} {d n : Nat} {u : R D.toDesc} (h : IsPer d u n) (hd : d ∣ D.m) : n ∣ D.m / d := h.dvd (by
 rw [Nat.mul_div_cancel' hd]; exact frob_M (F := R D.toDesc) u)
def vlen : Value → Nat
 | .slice _ n _ => n
 | _ => 0
theorem Own.vlen {w : World} {B : Nat} {v : Value} {l : List Int} (h : Own w B v l) : vlen v = l.length := by
 obtain ⟨A,c,rfl,-⟩ := h.form;rfl
theorem frobs_succ {D : FD} (d : Nat) (u : R D.toDesc) (n : Nat) : frobs d u (n + 1) = frobs d u n ++ [ci (frob (d * n) u)] := lst_succ _ _
theorem frobs_one {D : FD} (d : Nat) (u : R D.toDesc) : frobs d u 1 = [ci u] := by
 rw [frobs_succ,Nat.mul_zero,frob_zero_k]; rfl
theorem frobs_length {D : FD} (d : Nat) (u : R D.toDesc) (n : Nat) : (frobs d u n).length = n := lst_length _ _

set_option maxHeartbeats 1000000 in
theorem tConj_yes (D : FD) (x : Int) (d : Nat) (g : Nat) (w : World) (hg : GF w w.heap.size g D) (hd1 : 1 ≤ d) (hd2 : d ∣ D.m) :
  Calls Tryz.prog 223 #[.pointer (some ⟨g,0,none⟩),.int .i64 x,.int .i64 d] w fun e w' => ∃ n v,IsPer d (eli D.toDesc x) n ∧ e = .returned (.tuple #[v,.int .i64 0]) ∧ Own w' w.heap.size v (frobs d (eli D.toDesc x) n) ∧ Below w.heap.size w w' := by
 have hm8 := D.m8; have hm1 := D.m1;have hd8 : d ≤ 8 := Nat.le_trans (Nat.le_of_dvd hm1 hd2) hm8;have hI := isDegree_any D d g w hg;rw [divB_of hd1 hd2 D.m1] at hI;replace hI := Lib.hid hI;have hA := fun W hg => Lib.hid (gAdd_any D x 0 g W hg)
 have hF := fun y W hg => Lib.hid (tFrob_any D y d g W hg (by omega) (by omega))
 generalize hu : eli D.toDesc x = u at *;rw [eli_zero,add_zero] at hA;have hF0 := fun W hg => (hF (ci u) W hg).out
 rw [eli_ci,frob_kmod] at hF0;replace hF0 := fun W hg => Lib.hid (hF0 W hg)
 have hfM : Hid (frob (d * (D.m / d)) u = u) := by
  unfold Hid; rw [Nat.mul_div_cancel' hd2]; exact frob_M (F := R D.toDesc) u
 obtain ⟨N,hN⟩ : ∃ N,N = D.m / d := ⟨_,rfl⟩;have hN1 : 1 ≤ N := by rw [hN]; exact Nat.div_pos (Nat.le_of_dvd hm1 hd2) hd1
 have hN8 : N ≤ 8 := by rw [hN]; exact Nat.le_trans (Nat.div_le_self _ _) hm8
 rw [← hN] at hfM;clear hu hd2 hN;go_enter Tryz.func223,Tryz.ntmps223;go_wp2_with (fail);refine hI.out.mono ?_;rintro e w1 ⟨rfl,hb1⟩;have hg1 := (hg.below hb1).more hb1.size;go_wp2_with (fail);(with_reducible refine (hA _ hg1).out.mono ?_);rintro e w2 ⟨rfl,hb2⟩;have hg2 := (hg1.below hb2).more hb2.size;have hB2 := hb1.trans (hb2.mono hb1.size);have hB3 : Below w.heap.size w (w2.alloc (.cells #[.int .i64 (ci u)] 3)) := hB2.alloc hB2.size _;have hg3 : GF (w2.alloc (.cells #[.int .i64 (ci u)] 3)) (w2.alloc (.cells #[.int .i64 (ci u)] 3)).heap.size g D := (hg2.below ((Below.refl _ _).alloc (Nat.le_refl _) _)).more (by simp);have hown3 : Own (w2.alloc (.cells #[.int .i64 (ci u)] 3)) w.heap.size (.slice (some ⟨w2.heap.size,0,none⟩) 1 1) (frobs d u 1) := by
  rw [frobs_one];exact Own.of_IB (IB.new w2 [ci u]) hB2.size (by simp [maxLen])
 go_wp2_with (fail);(with_reducible refine (hF0 _ hg3).out.mono ?_);rintro e w4 ⟨rfl,hb4⟩;have hB4 := hB3.trans (hb4.mono hB3.size);have hown4 := hown3.below hb4 (Nat.le_refl _);have hg4 := (hg3.below hb4).more hb4.size;clear hF0 hA hI hg3 hg2 hg1 hB3 hB2 hown3 hb1 hb2 hb4;go_wp2_with (fail);go_loopw [8,9] (fun o y wr => ∃ k : Nat,1 ≤ k ∧ k ≤ N ∧ y = .int .i64 (ci (frob (d * k) u)) ∧ Own wr w.heap.size o (frobs d u k) ∧ Below w.heap.size w wr ∧ Hid (∀ j,1 ≤ j → j < k → frob (d * j) u ≠ u)) (fun o _ _ => N - vlen o)
 case atStart => exact ⟨1,by omega,hN1,by rw [Nat.mul_one],hown4,hB4,fun j h1 h2 => by omega⟩
 case round =>
  clear hown4 hB4;obtain ⟨k,hk1,hk2,rfl,hown,hbw,hno⟩ := hrel;have hvl := Lib.hid (hown.vlen.trans (frobs_length d u k));by_cases hfk : frob (d * k) u = u
  ·have hper : Hid (IsPer d u k) := ⟨hk1,hfk,hno.out⟩;rw [hfk];clear hfk hno;go_wp2_with (fail);go_ret2;exact ⟨k,_,hper.out,rfl,hown,hbw⟩
  ·have hne : (ci (frob (d * k) u) != ci u) = true := by rw [bne_iff_ne]; exact fun e => hfk (ci_inj e)
   have hkN : k < N := by
    rcases Nat.lt_or_ge k N with h | h
    ·exact h
    ·exact absurd (by rw [show k = N by omega]; exact hfM.out) hfk
   have hno2 : Hid (∀ j,1 ≤ j → j < k + 1 → frob (d * j) u ≠ u) := fun j h1 h2 => by
    by_cases e : j = k
    ·subst e; exact hfk
    ·exact hno.out j h1 (by omega)
   have hF2 := fun W hg => (hF (ci (frob (d * k) u)) W hg).out
   rw [eli_ci,frob_kmod,frob_frob,show d + d * k = d * (k + 1) by rw [Nat.mul_succ]; omega] at hF2;replace hF2 := fun W hg => Lib.hid (hF2 W hg)
   have hsc := Lib.hid (frobs_succ d u k);have hle : (frobs d u k).length ≤ 1000000 := by rw [frobs_length]; omega
   clear hfk hno;generalize ci (frob (d * k) u) = y at *;go_wp2_with (at_builtin; refine wpList_app1 rfl _ _ rfl w.heap.size _ _ _ hown rfl rfl rfl hle hbw.size ?_; intro v' w3 hown3 hb3 _ _);have hbw3 := hbw.trans hb3;have hg3 := (hg.below hbw3).more hbw3.size;go_wp2_with (fail);(with_reducible refine (hF2 _ hg3).out.mono ?_);rintro e w4 ⟨rfl,hb4⟩;go_wp2_with (fail);go_roundw
   case rel => exact ⟨k + 1,by omega,by omega,rfl,by rw [hsc.out]; exact hown3.below hb4 (Nat.le_refl _),hbw3.trans (hb4.mono hbw3.size),hno2⟩
   case measure => rw [hvl.out,hown3.vlen]; simp [frobs_length]; omega

end
end Go.Proofs.YtjdoneanohhkmaaGreat
