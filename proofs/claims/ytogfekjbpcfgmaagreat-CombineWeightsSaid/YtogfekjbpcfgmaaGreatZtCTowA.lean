/- The program's Pow. The reference's power. Layer 7 of the reference: Frobenius, Divides, In. The reference of layer 7: Trace, Norm, Subfield, Conjugates. Layer 7 of the program: prime, isDegree, Frobenius, Degree. -/
import Derived.Deep.Onto
import Derived.Test.YtogfekjbpcfgmaaGreatZtCRF
import Derived.Test.YtogfekjbpcfgmaaGreatZtCGA
import Derived.Test.YtogfekjbpcfgmaaGreatZtCOnce
namespace Go.Proofs.YtogfekjbpcfgmaaGreat
section
open Go.RowKit Cw

set_option maxHeartbeats 2000000 in
theorem gPow_any (D:FD)(x:Int)(n:Nat)(g:Nat)(w:World)(hg:GF w w.heap.size g D)(hn1:1≤n)(hn2:n≤65536) :
  Calls Tryz.prog 229 #[.pointer (some ⟨g,0,none⟩),.int .i64 x,.int .i64 n] w fun e w'=>e=.returned (.tuple #[.int .i64 (ci (pw (eli D.toDesc x) n)),.int .i64 0])∧Below w.heap.size w w':=by
 have hq2:=D.q2; have hq3:=D.q256;have hix:=gin_any D x g w hg;generalize eli D.toDesc x=u at *;replace hix:=Lib.hid hix;have c3:=hg.c3;obtain⟨Ae,ce,c4,re⟩:=hg.ex;obtain⟨Al,cl,c5,rl⟩:=hg.lo;clear hg;have hu0:=ci_nonneg u; have hu1:=ci_lt u;have hnb:((n:Int)==0)=false:=by rw[beq_eq_false_iff_ne]; omega
 by_cases hu:u=0
 ·have hb:(ci u==0)=true:=by rw[beq_iff_eq]; exact ci_eq_zero.2 hu
  have hfin:Hid (ci (pw u n)=0):=by unfold Hid; rw[hu,zero_pw (by omega),ci_zero]
  clear hu;go_enter Tryz.func229,Tryz.ntmps229;go_wp2_with (fail);refine hix.out.mono ?_;rintro e w1 ⟨rfl,rfl⟩;go_wp2_with (fail);go_ret2;exact⟨by rw[hfin.out]; rfl,Below.refl _ _⟩
 ·have hb:(ci u==0)=false:=by rw[beq_eq_false_iff_ne]; exact fun h=>hu (ci_eq_zero.1 h)
  obtain⟨a,ha⟩:=Int.eq_ofNat_of_zero_le hu0;have ha2:a<D.q:=by omega
  have har:rel D.toDesc a=u:=by rw[←rel_rcode u]; congr 1; unfold ci at ha; omega
  have hll:(lgl D).length=D.q:=lst_length _ _;obtain⟨bl,ol,rfl,hbl,hcl⟩:=rl (by rw[hll]; omega);have hea:(expl D).length=D.q - 1:=lst_length _ _;obtain⟨be,oe,rfl,hbe,hce⟩:=re (by rw[hea]; omega);have hla:=hcl a (by rw[hll]; exact ha2);rw[show (lgl D)[a]?.getD 0=(lg D u:Nat) by unfold lgl; rw[lst_get _ ha2,har]]at hla;obtain⟨i,hi⟩:∃ i,i=lg D u:=⟨_,rfl⟩;have hil:i<D.q - 1:=by rw[hi]; exact lg_lt _ _
  rw[←hi]at hla;obtain⟨k,hk⟩:∃ k,D.q=k+1:=⟨D.q - 1,by omega⟩;have hk1:1≤k:=by omega
  have hk2:k≤255:=by omega
  obtain⟨r,hr⟩:∃ r,r=n % k:=⟨_,rfl⟩;have hrk:r<k:=by rw[hr]; exact Nat.mod_lt _ (by omega)
  obtain⟨t,ht⟩:∃ t,t=i*r:=⟨_,rfl⟩;have htb:t≤65536:=by rw[ht]; exact Nat.mul_le_mul (show i≤256 by omega) (show r≤256 by omega)
  obtain⟨z,hz⟩:∃ z,z=t % k:=⟨_,rfl⟩;have hzk:z<k:=by rw[hz]; exact Nat.mod_lt _ (by omega)
  have hex:=hce z (by rw[hea]; omega);rw[show (expl D)[z]?.getD 0=ci (pw D.g z) from lst_get _ (by omega)]at hex;have hkq:D.q - 1=k:=by omega
  have hpw:pw D.g z=pw u n:=by
   have h1:=pw_gen_mod (F:=R D.toDesc) t;have h2:pw D.g z=pw D.g t:=by rw[hz,←hkq]; exact h1
   have h3:=pw_mod (F:=R D.toDesc) hu n;have h4:pw u r=pw u n:=by rw[hr,←hkq]; exact h3
   rw[h2,ht,pw_mul,hi,pw_lg D hu,h4]
  rw[hpw]at hex;rw[ha]at hb hix;rw[hkq]at c4;rw[hk]at c3 c5;have ee1:Hid ((n:Int) % (k:Int)=(r:Int)):=by unfold Hid; rw[hr]; rfl
  have ee2:Hid (((r:Int)+(k:Int)) % (k:Int)=(r:Int)):=by
   unfold Hid; rw[Int.add_emod_right]; exact Int.emod_eq_of_lt (by omega) (by omega)
  have ee3:Hid ((i:Int)*(r:Int)=(t:Int)):=by unfold Hid; rw[ht,Int.natCast_mul]
  have ee4:Hid ((t:Int) % (k:Int)=(z:Int)):=by unfold Hid; rw[hz]; rfl
  have ha3:a<k+1:=by omega
  have hik:i<k:=by omega
  clear hcl hce ha hi har hpw hu hea hll hkq hr ht hz hk hq2 hq3 hu0 hu1 ha2 hil;have ee1':=ee1.out;have ee2':=ee2.out;go_enter Tryz.func229,Tryz.ntmps229;go_wp2_with (fail);refine hix.out.mono ?_;rintro e w1 ⟨rfl,rfl⟩;go_wp2_with (fail);clear ee1' ee2';rw[ee2.out];have i1:(a:Int)<(k:Int)+1:=by omega
  have i3:(0:Int)≤(t:Int):=by omega
  have i4:(z:Int)<(k:Int):=by omega
  have hk0:¬ k=0:=by omega
  have e1:=ee3.out;have e2:IntKind.i64.wrap (t:Int)=(t:Int):=IntWalk.i64_in _ (by omega);have e3:(t:Int).tmod (k:Int)=(z:Int):=(Int.tmod_eq_emod_of_nonneg i3).trans ee4.out;go_quiet (fail);clear e1 e2 e3;go_wp2_with (fail);go_ret2;exact⟨rfl,below_drewN' (Below.refl _ _) _⟩
end
section
open Go.RowKit Cw
open Cw.CField (inv)
set_option maxHeartbeats 1000000 in
theorem Pow_any (D:FD)(x:Int)(n:Nat)(A:Option Addr)(c:Nat)(w:World)(hr:Rd w w.heap.size A (modL D.toDesc))(hn1:1≤n)(hn2:n≤4294967296) :
  Calls Tryz.prog 223 #[.agg #[.int .i64 D.p,.int .i64 D.m,.slice A D.mod.length c],.int .i64 x,.int .i64 n] w fun e w' =>
   e=.returned (.tuple #[.int .i64 (ci (pw (eli D.toDesc x) n)),.int .i64 0])∧Below w.heap.size w w':=by
 have hq2:=D.q2; have hq3:=D.q256; have hp1:=D.p256; have hp2:=D.m8;have hM:=fun y z w (hr:Rd w w.heap.size A (modL D.toDesc))=>Lib.hid (Mul_any D.toDesc y z A c w hr)
 have hI:=fun w=>Lib.hid (In_any D.toDesc x A D.mod.length c w)
 have hO:=fun w=>Lib.hid (Order_any D.p D.m A D.mod.length c w (by omega) (by omega))
 have hqq:=qOf_D D.toDesc;obtain⟨k,hk⟩:∃ k,D.q=k+1:=⟨D.q - 1,by omega⟩;rw[hk]at hqq;have hqq:=Lib.hid hqq;generalize eli D.toDesc x=u at *;have hbx0:=Bx.new w D.toDesc A D.mod.length c 24;have hn0:((n:Int)==0)=false:=by rw[beq_eq_false_iff_ne]; omega
 by_cases hu:u=0
 ·have hci:ci u=0:=ci_eq_zero.2 hu;have hfin:Hid (ci (pw u n)=0):=by unfold Hid; rw[hu,zero_pw (by omega),ci_zero]
  clear hu;go_enter Tryz.func223,Tryz.ntmps223;go_wp2_with (fail);refine (hI _).out.mono ?_;rw[hci];rintro e w1 ⟨rfl,hb1⟩;go_wp2_with (fail);go_ret2;exact⟨by rw[hfin.out]; rfl,((Below.refl _ _).alloc (Nat.le_refl _) _).trans (hb1.mono (by simp))⟩
 ·have hci:(ci u==0)=false:=by rw[beq_eq_false_iff_ne]; exact fun h=>hu (ci_eq_zero.1 h)
  have hfin:Hid (pw u (n % k)=pw u n):=by
   have h:=pw_mod hu n
   show pw u (n % k)=_
   rw[show k=FF.q (R D.toDesc) - 1 by show k=D.q - 1; omega]; exact h
  have hk1:1≤k:=by omega
  have hk3:k≤255:=by omega
  have hlt:=Nat.mod_lt n (show 0<k by omega);clear hu hk hq2 hq3;go_enter Tryz.func223,Tryz.ntmps223;go_wp2_with (fail);refine (hI _).out.mono ?_;rintro e w1 ⟨rfl,hb1⟩;have hbx1:=hbx0.below hb1 (by simp);have kc:=hbx1;obtain⟨kc0,kc1,kc2⟩:=kc;have hs1:=hb1.size;simp only[World.size_alloc]at hs1;go_wp2_with (fail);refine (hO _).out.mono ?_;rw[hqq.out];rintro e w2 ⟨rfl,hb2⟩;have hbx2:=hbx1.below hb2 (by omega);have hs2:=hb2.size;have hbw2:Below w.heap.size w w2:=(((Below.refl _ _).alloc (Nat.le_refl _) _).trans (hb1.mono (by simp))).trans (hb2.mono (by omega));clear kc0 kc1 kc2;go_wp2_with (fail);rw[show ((n:Int) % (k:Int)+(k:Int)) % (k:Int)=((n % k:Nat):Int) by rw[Int.add_emod_right,Int.emod_emod_of_dvd _ (Int.dvd_refl _)]; rfl];generalize n % k=r at *;have hr2:=hr.below hbw2;go_loopw [9,10] (fun o i wr=>∃ j:Nat,j≤r∧i=.int .i64 j∧o=.int .i64 (ci (pw u j))∧Bx wr w.heap.size D.toDesc A D.mod.length c∧Below w.heap.size w wr∧w.heap.size<wr.heap.size) (fun _ i _=>r - (intOf i).toNat)
  case atStart=>exact⟨0,by omega,rfl,by rw[pw_zero,ci_one],hbx2,hbw2,by omega⟩
  case round =>
   obtain⟨j,hj,rfl,rfl,hbx,hbw,hsz⟩:=hrel;have kc:=hbx;obtain⟨kc0,kc1,kc2⟩:=kc;by_cases hlt2:j<r
   ·have hM2:=hM (ci (pw u j)) (ci u) wr ((hr.below hbw).more (by omega));rw[eli_ci,eli_ci]at hM2;have hM2:=Lib.hid hM2.out;go_wp2_with (fail);refine hM2.out.mono ?_;rintro e w3 ⟨rfl,hb3⟩;go_wp2_with (fail);go_roundw
    case rel=>exact⟨j+1,by omega,by go_num,rfl,hbx.below hb3 hsz,hbw.trans (hb3.mono (by omega)),by have:=hb3.size; omega⟩
    case measure=>simp[intOf]; omega
   ·obtain rfl:j=r:=by omega
    go_wp2_with (fail);go_ret2;exact⟨by rw[←hfin.out]; rfl,hbw⟩
end
section
open Go.RowKit Cw
set_option maxHeartbeats 1000000 in
theorem Frob7_any (D:FD)(x:Int)(k:Nat)(A:Option Addr)(c:Nat)(w:World)(hr:Rd w w.heap.size A (modL D.toDesc))(hk:k≤4294967296) :
  Calls Tryz.prog 194 #[.agg #[.int .i64 D.p,.int .i64 D.m,.slice A D.mod.length c],.int .i64 x,.int .i64 k] w fun e w' =>
   e=.returned (.int .i64 (ci (frob k (eli D.toDesc x))))∧Below w.heap.size w w':=by
 have hp0:=D.p2; have hp1:=D.p256; have hp2:=D.m8;have hI:=fun w=>Lib.hid (In_any D.toDesc x A D.mod.length c w)
 have hP:=fun y w (hr:Rd w w.heap.size A (modL D.toDesc))=>Lib.hid (Pow_any D y D.p A c w hr (by omega) (by omega))
 generalize eli D.toDesc x=u at *;have hbx0:=Bx.new w D.toDesc A D.mod.length c 24;go_enter Tryz.func194,Tryz.ntmps194;go_wp2_with (fail);refine (hI _).out.mono ?_;rintro e w1 ⟨rfl,hb1⟩;have hbx1:=hbx0.below hb1 (by simp);have hs1:=hb1.size;simp only[World.size_alloc]at hs1;have hbw1:Below w.heap.size w w1:=((Below.refl _ _).alloc (Nat.le_refl _) _).trans (hb1.mono (by simp));go_wp2_with (fail);go_loopw [1,7] (fun o i wr=>∃ j:Nat,j≤k∧i=.int .i64 j∧o=.int .i64 (ci (frob j u))∧Bx wr w.heap.size D.toDesc A D.mod.length c∧Below w.heap.size w wr∧w.heap.size<wr.heap.size) (fun _ i _=>k - (intOf i).toNat)
 case atStart=>exact⟨0,by omega,rfl,by rw[frob_zero_k],hbx1,hbw1,by omega⟩
 case round =>
  obtain⟨j,hj,rfl,rfl,hbx,hbw,hsz⟩:=hrel;have kc:=hbx;obtain⟨kc0,kc1,kc2⟩:=kc;by_cases hlt2:j<k
  ·have hM2:=hP (ci (frob j u)) wr ((hr.below hbw).more (by omega));rw[eli_ci]at hM2;have hM2:=Lib.hid hM2.out;have hfs:Hid (pw (frob j u) D.p=frob (j+1) u):=(frob_succ j u).symm;go_wp2_with (fail);refine hM2.out.mono ?_;rw[hfs.out];rintro e w3 ⟨rfl,hb3⟩;go_wp2_with (fail);go_roundw
   case rel=>exact⟨j+1,by omega,by go_num,rfl,hbx.below hb3 hsz,hbw.trans (hb3.mono (by omega)),by have:=hb3.size; omega⟩
   case measure=>simp[intOf]; omega
  ·obtain rfl:j=k:=by omega
   go_wp2_with (fail);go_ret;exact⟨rfl,hbw⟩

def divB (m:Nat)(d:Int):Bool:=decide (1≤d∧d≤(m:Int)∧(m:Int) % d=0)
theorem divB_nat {m:Nat} {d:Int} (h:divB m d=true):∃ k:Nat,d=k∧1≤k∧k≤m∧k∣m:=by
 have h:=of_decide_eq_true h;obtain⟨k,rfl⟩:=Int.eq_ofNat_of_zero_le (show 0≤d by omega);refine⟨k,rfl,by omega,by omega,?_⟩;exact Int.natCast_dvd_natCast.1 (Int.dvd_of_emod_eq_zero h.2.2)
theorem divB_of {m k:Nat} (h1:1≤k)(h2:k∣m)(hm:1≤m):divB m k=true :=
 decide_eq_true ⟨by omega,by have:=Nat.le_of_dvd hm h2; omega,Int.emod_eq_zero_of_dvd (Int.natCast_dvd_natCast.2 h2)⟩

set_option maxHeartbeats 1000000 in
theorem Divides_any (D:Desc)(d:Int)(A:Option Addr)(n c:Nat)(w:World) :
  Calls Tryz.prog 116 #[.agg #[.int .i64 D.p,.int .i64 D.m,.slice A n c],.int .i64 d] w fun e w' =>
   e=.returned (.bool (divB D.m d))∧Below w.heap.size w w':=by
 have hp2:=D.m8;by_cases h1:1≤d
 ·by_cases h2:d≤D.m
  ·by_cases h3:(D.m:Int) % d=0
   ·have hb:((D.m:Int) % d==0)=true:=beq_iff_eq.2 h3;have hfin:Hid (divB D.m d=true):=decide_eq_true ⟨h1,h2,h3⟩;clear h3;go_enter Tryz.func116,Tryz.ntmps116;go_wp2_with (fail);go_ret;exact⟨ret_bool hfin.out.symm,(Below.refl _ _).alloc (Nat.le_refl _) _⟩
   ·have hb:((D.m:Int) % d==0)=false:=beq_eq_false_iff_ne.2 h3;have hfin:Hid (divB D.m d=false):=decide_eq_false fun h=>h3 h.2.2
    clear h3;go_enter Tryz.func116,Tryz.ntmps116;go_wp2_with (fail);go_ret;exact⟨ret_bool hfin.out.symm,(Below.refl _ _).alloc (Nat.le_refl _) _⟩
  ·have hfin:Hid (divB D.m d=false):=decide_eq_false fun h=>h2 h.2.1
   go_enter Tryz.func116,Tryz.ntmps116;go_wp2_with (fail);go_ret;exact⟨ret_bool hfin.out.symm,(Below.refl _ _).alloc (Nat.le_refl _) _⟩
 ·have hfin:Hid (divB D.m d=false):=decide_eq_false fun h=>h1 h.1
  go_enter Tryz.func116,Tryz.ntmps116;go_wp2_with (fail);go_ret;exact⟨ret_bool hfin.out.symm,(Below.refl _ _).alloc (Nat.le_refl _) _⟩

set_option maxHeartbeats 1000000 in
theorem In7_any (D:FD)(x:Int)(k:Nat)(A:Option Addr)(c:Nat)(w:World)(hr:Rd w w.heap.size A (modL D.toDesc))(hk:k≤4294967296) :
  Calls Tryz.prog 172 #[.agg #[.int .i64 D.p,.int .i64 D.m,.slice A D.mod.length c],.int .i64 x,.int .i64 k] w fun e w' =>
   e=.returned (.bool (decide (frob k (eli D.toDesc x)=eli D.toDesc x)))∧Below w.heap.size w w':=by
 have hF:=fun w hr=>Lib.hid (Frob7_any D x k A c w hr hk)
 have hI:=fun w=>Lib.hid (In_any D.toDesc x A D.mod.length c w)
 generalize eli D.toDesc x=u at *;have hbx0:=Lib.hid (Bx.new w D.toDesc A D.mod.length c 24);have hr0:=Lib.hid (hr.alloc (Nat.le_refl _) (.cells #[.int .i64 D.p,.int .i64 D.m,.slice A D.mod.length c] 24));have hfin:=Lib.hid (ci_beq (frob k u) u);clear hr;go_enter Tryz.func172,Tryz.ntmps172;go_wp2;go_region_held3 (fun w'=>w'.cell? ⟨w.heap.size,0,none⟩=some (.int .i64 D.p)∧w'.cell? ⟨w.heap.size,1,none⟩=some (.int .i64 D.m)∧w'.cell? ⟨w.heap.size,2,none⟩=some (.slice A D.mod.length c)) (first | exact hbx0.out | exact hbx1.out | exact hbx2.out)
  (first
   | (go_at_call 194; refine (hF _ (hr0.out.drew.more (by simp))).out.mono ?_; rintro e w1 ⟨rfl,hb1⟩; have hbx1:=Lib.hid (hbx0.out.drew.below hb1 (by simp)))
   | (go_at_call 49; refine (hI _).out.mono ?_; rintro e w2 ⟨rfl,hb2⟩; have hbx2:=Lib.hid (hbx1.out.below hb2 (by have:=hb1.size; simp at this; omega))))
 rw[hfin.out];have hz1:=hb1.size;simp only[World.drew,World.size_alloc]at hz1;go_wp2;go_ret;exact⟨rfl,((((Below.refl _ _).alloc (Nat.le_refl _) _).drew).trans (hb1.mono (by simp))).trans (hb2.mono (by omega))⟩

end
section
open Go.RowKit Cw
open Cw.CField (inv)

noncomputable def frobs {D:FD} (d:Nat)(u:R D.toDesc)(n:Nat):List Int:=lst n fun i=>ci (frob (d*i) u)

noncomputable def subL (D:FD)(d k:Nat):List Int:=((List.range k).filter fun x=>decide (frob d (rel D.toDesc x)=rel D.toDesc x)).map fun x:Nat=>(x:Int)
theorem subL_yes (D:FD)(d k:Nat)(h:frob d (rel D.toDesc k)=rel D.toDesc k):subL D d (k+1)=subL D d k ++ [(k:Int)]:=by
 simp[subL,List.range_succ,h]
theorem subL_no (D:FD)(d k:Nat)(h:¬ frob d (rel D.toDesc k)=rel D.toDesc k):subL D d (k+1)=subL D d k:=by
 simp[subL,List.range_succ,h]
theorem subL_le (D:FD)(d k:Nat):(subL D d k).length≤k:=by
 unfold subL; rw[List.length_map]; exact Nat.le_trans (List.length_filter_le _ _) (by simp)

set_option maxHeartbeats 1000000 in
theorem Subfield7_any (D:FD)(d:Nat)(A:Option Addr)(c:Nat)(w:World)(hr:Rd w w.heap.size A (modL D.toDesc))(hd2:d≤8) :
  Calls Tryz.prog 117 #[.agg #[.int .i64 D.p,.int .i64 D.m,.slice A D.mod.length c],.int .i64 d] w (GivesA w.heap.size (subL D d D.q) w):=by
 have hq3:=D.q256; have hp1:=D.p256; have hp2:=D.m8;have hI:=fun y w (hr:Rd w w.heap.size A (modL D.toDesc))=>Lib.hid (In7_any D y d A c w hr (by omega))
 have hO:=fun w=>Lib.hid (Order_any D.p D.m A D.mod.length c w (by omega) (by omega))
 have hqq:=Lib.hid (qOf_D D.toDesc);have hbx0:=Bx.new w D.toDesc A D.mod.length c 24;go_enter Tryz.func117,Tryz.ntmps117;go_wp2_with (fail);go_loopw [5,6] (fun o i wr=>∃ k:Nat,k≤D.q∧i=.int .i64 k∧Own wr (w.heap.size+1) o (subL D d k)∧Bx wr w.heap.size D.toDesc A D.mod.length c∧Below w.heap.size w wr∧w.heap.size<wr.heap.size) (fun _ i _=>D.q - (intOf i).toNat)
 case atStart=>exact⟨0,by omega,rfl,Own.nil _ _,hbx0,(Below.refl _ _).alloc (Nat.le_refl _) _,by simp⟩
 case round =>
  obtain⟨k,hk,rfl,hown,hbx,hbw,hsz⟩:=hrel;have kc:=hbx;obtain⟨kc0,kc1,kc2⟩:=kc;by_cases hlt:k<D.q
  ·go_wp2_with (fail);refine (hO _).out.mono ?_;rw[hqq.out];rintro e w1 ⟨rfl,hb1⟩;have hs1:=hb1.size;have hbx1:=hbx.below hb1 hsz;have hbw1:=hbw.trans (hb1.mono (Nat.le_of_lt hsz));have hown1:=hown.below hb1 (Nat.le_refl _);have kc:=hbx1;clear kc0 kc1 kc2;obtain⟨kc0,kc1,kc2⟩:=kc;have hI2:=Lib.hid (hI k w1 ((hr.below hbw1).more (by omega))).out;have hek:=eli_nat (D:=D.toDesc) hlt;by_cases hyes:frob d (rel D.toDesc k)=rel D.toDesc k
   ·have hb:Hid (decide (frob d (eli D.toDesc k)=eli D.toDesc k)=true):=by unfold Hid; rw[hek]; exact decide_eq_true hyes
    have hsub:=Lib.hid (subL_yes D d k hyes);have hle:=subL_le D d k;clear hek hyes;go_wp2_with (fail);refine hI2.out.mono ?_;rw[hb.out];rintro e w2 ⟨rfl,hb2⟩;have hs2:=hb2.size;have hbx2:=hbx1.below hb2 (by omega);have hown2:=hown1.below hb2 (Nat.le_refl _);go_wp2_with (at_builtin; refine wpList_app1 rfl _ _ rfl (w.heap.size+1) _ _ _ hown2 rfl rfl rfl (by omega) (by omega) ?_; intro v' w3 hown3 hb3 _ _);go_roundw
    case rel=>exact⟨k+1,by omega,by go_num,by rw[hsub.out]; exact hown3,hbx2.below hb3 (by omega),hbw1.trans ((hb2.mono (by omega)).trans (hb3.mono (by omega))),by have:=hb3.size; omega⟩
    case measure=>simp[intOf]; omega
   ·have hb:Hid (decide (frob d (eli D.toDesc k)=eli D.toDesc k)=false):=by unfold Hid; rw[hek]; exact decide_eq_false hyes
    have hsub:=Lib.hid (subL_no D d k hyes);clear hek hyes;go_wp2_with (fail);refine hI2.out.mono ?_;rw[hb.out];rintro e w2 ⟨rfl,hb2⟩;have hs2:=hb2.size;have hbx2:=hbx1.below hb2 (by omega);have hown2:=hown1.below hb2 (Nat.le_refl _);go_wp2_with (fail);go_roundw
    case rel=>exact⟨k+1,by omega,by go_num,by rw[hsub.out]; exact hown2,hbx2,hbw1.trans (hb2.mono (by omega)),by omega⟩
    case measure=>simp[intOf]; omega
  ·obtain rfl:k=D.q:=by omega
   go_wp2_with (fail);refine (hO _).out.mono ?_;rw[hqq.out];rintro e w1 ⟨rfl,hb1⟩;go_wp2_with (fail);go_ret;exact⟨_,rfl,(World.ownsRow.mono (hown.below hb1 (Nat.le_refl _)) (Nat.le_succ _)),hbw.trans (hb1.mono (Nat.le_of_lt hsz))⟩
end
section
open Go.RowKit Cw

set_option maxHeartbeats 1000000 in
theorem tprime_any (D:FD)(g:Nat)(w:World)(hg:GF w w.heap.size g D) :
  Calls Tryz.prog 168 #[.pointer (some ⟨g,0,none⟩)] w fun e w'=>e=.returned (.tuple #[.int .i64 D.p,.int .i64 D.m])∧Below w.heap.size w w':=by
 have hF:=Lib.hid (gField_any D g w hg);clear hg;go_enter Tryz.func168,Tryz.ntmps168;go_wp2_with (fail);refine hF.out.mono ?_;rintro e w1 ⟨A3,c3,rfl,hr,hA,hb1⟩;have hs1:=hb1.size;go_wp2_with (fail);go_quiet (fail);go_wp2_with (fail);go_ret2;exact⟨rfl,below_drewN' (hb1.alloc hs1 _) _⟩

set_option maxHeartbeats 1000000 in
theorem isDegree_any (D:FD)(d:Int)(g:Nat)(w:World)(hg:GF w w.heap.size g D) :
  Calls Tryz.prog 164 #[.pointer (some ⟨g,0,none⟩),.int .i64 d] w fun e w'=>e=.returned (.bool (divB D.m d))∧Below w.heap.size w w':=by
 have hp2:=D.m8;have hP:=Lib.hid (tprime_any D g w hg);clear hg;by_cases h1:1≤d
 ·by_cases h2:d≤D.m
  ·by_cases h3:(D.m:Int) % d=0
   ·have hb:((D.m:Int) % d==0)=true:=beq_iff_eq.2 h3;have hfin:Hid (divB D.m d=true):=decide_eq_true ⟨h1,h2,h3⟩;clear h3;go_enter Tryz.func164,Tryz.ntmps164;go_wp2_with (go_at_call 168; refine hP.out.mono ?_; rintro e w1 ⟨rfl,hb1⟩);go_ret;exact⟨ret_bool hfin.out.symm,hb1⟩
   ·have hb:((D.m:Int) % d==0)=false:=beq_eq_false_iff_ne.2 h3;have hfin:Hid (divB D.m d=false):=decide_eq_false fun h=>h3 h.2.2
    clear h3;go_enter Tryz.func164,Tryz.ntmps164;go_wp2_with (go_at_call 168; refine hP.out.mono ?_; rintro e w1 ⟨rfl,hb1⟩);go_ret;exact⟨ret_bool hfin.out.symm,hb1⟩
  ·have hfin:Hid (divB D.m d=false):=decide_eq_false fun h=>h2 h.2.1
   go_enter Tryz.func164,Tryz.ntmps164;go_wp2_with (go_at_call 168; refine hP.out.mono ?_; rintro e w1 ⟨rfl,hb1⟩);go_ret;exact⟨ret_bool hfin.out.symm,hb1⟩
 ·have hfin:Hid (divB D.m d=false):=decide_eq_false fun h=>h1 h.1
  go_enter Tryz.func164,Tryz.ntmps164;go_wp2_with (go_at_call 168; refine hP.out.mono ?_; rintro e w1 ⟨rfl,hb1⟩);go_ret;exact⟨ret_bool hfin.out.symm,hb1⟩

def kmod (m:Nat)(k:Int):Nat:=(k % (m:Int)).toNat
theorem kmod_eq {m:Nat} (hm:1≤m)(k:Int):(k.tmod m+m).tmod m=(kmod m k:Int):=by
 have h1:(0:Int)<m:=by omega
 have h2:=Int.emod_nonneg k (show (m:Int)≠0 by omega);have h3:=Int.emod_lt_of_pos k h1;have e:(kmod m k:Int)=k % (m:Int):=Int.toNat_of_nonneg h2;rw[e];have h5:=Int.lt_tmod_of_pos k h1;rw[Int.tmod_eq_emod_of_nonneg (by omega),Int.add_emod_right];rw[Int.tmod_eq_emod]
 split <;> simp

set_option maxHeartbeats 1000000 in
theorem tFrob_any (D:FD)(x k:Int)(g:Nat)(w:World)(hg:GF w w.heap.size g D)(_hk1:-9223372036854775808≤k)(_hk2:k≤9223372036854775807) :
  Calls Tryz.prog 210 #[.pointer (some ⟨g,0,none⟩),.int .i64 x,.int .i64 k] w fun e w'=>e=.returned (.int .i64 (ci (frob (kmod D.m k) (eli D.toDesc x))))∧Below w.heap.size w w':=by
 have hp2:=D.m8; have hm1:=D.m1; have hpp:=D.p2; have hp3:=D.p256;have hP:=Lib.hid (tprime_any D g w hg);have hkm:=kmod_eq hm1 k;have hkl:kmod D.m k≤8:=by
  have h3:=Int.emod_lt_of_pos k (show (0:Int)<D.m by omega);unfold kmod; omega
 have hW:=fun y W hg=>Lib.hid (gPow_any D y D.p g W hg (by omega) (by omega))
 have hA:=fun y W hg=>Lib.hid (gAdd_any D y 0 g W hg)
 have htl:=Int.lt_tmod_of_pos k (show (0:Int)<D.m by omega);have htu:k.tmod D.m<D.m:=Int.tmod_lt_of_pos k (by omega);generalize kmod D.m k=K at *;go_enter Tryz.func210,Tryz.ntmps210;go_wp2_with (fail);refine hP.out.mono ?_;rintro e w1 ⟨rfl,hb1⟩;go_wp2_with (fail)

 have hs1:=hb1.size;have hg1:=(hg.below hb1).more hs1;replace hkm:=Lib.hid hkm;clear htl htu hP;go_loopw [1,21,23] (fun y i _ wr=>∃ j:Nat,∃ z:Int,j≤K∧i=.int .i64 j∧y=.int .i64 z∧Hid (eli D.toDesc z=frob j (eli D.toDesc x))∧Below w.heap.size w wr∧Hid (GF wr wr.heap.size g D)) (fun _ i _ _=>K - (intOf i).toNat)
 case atStart=>exact⟨0,x,by omega,rfl,rfl,(frob_zero_k _).symm,hb1,hg1⟩
 case round =>
  obtain⟨j,z,hj,rfl,rfl,hz,hbw,hgr⟩:=hrel;by_cases hlt:j<K
  ·have hW2:=Lib.hid (hW z wr hgr.out).out;have hz2:Hid (eli D.toDesc (ci (pw (eli D.toDesc z) D.p))=frob (j+1) (eli D.toDesc x)):=by
    unfold Hid; rw[eli_ci,hz.out]; exact (frob_succ j _).symm
   go_wp2_with (fail);refine hW2.out.mono ?_;rintro e w2 ⟨rfl,hb2⟩;go_wp2_with (fail);go_roundw
   case rel=>exact⟨j+1,_,by omega,by go_num,rfl,hz2,hbw.trans (hb2.mono hbw.size),(hgr.out.below hb2).more hb2.size⟩
   case measure=>simp[intOf]; omega
  ·obtain rfl:j=K:=by omega
   have hA2:=Lib.hid (hA z wr hgr.out).out;have hfin:Hid (ci (eli D.toDesc z+eli D.toDesc 0)=ci (frob j (eli D.toDesc x))):=by
    unfold Hid; rw[eli_zero,add_zero,hz.out]
   go_wp2_with (fail);refine hA2.out.mono ?_;rintro e w2 ⟨rfl,hb2⟩;go_wp2_with (fail);go_ret;exact⟨ret_int hfin.out,hbw.trans (hb2.mono hbw.size)⟩
end
end Go.Proofs.YtogfekjbpcfgmaaGreat
