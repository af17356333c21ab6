/- Layer 19 of the reference: a table read backwards, the code of a description. -/
import Derived.Test.YtjdoneanohhkmaaGreatZtV10RMH
import Derived.Test.YtjdoneanohhkmaaGreatZtV10RBxs
import Derived.Test.YtjdoneanohhkmaaGreatZtV10RTowA
import Derived.Test.YtjdoneanohhkmaaGreatZtV10RNul
import Derived.Test.YtjdoneanohhkmaaGreatZtV10RGpaP
import Derived.Test.YtjdoneanohhkmaaGreatZtV10REmbR
import Derived.Test.YtjdoneanohhkmaaGreatZtV10RGrsU
import Derived.Test.YtjdoneanohhkmaaGreatZtV10RMI
import Derived.Test.YtjdoneanohhkmaaGreatZtV10RTk
namespace Go.Proofs.YtjdoneanohhkmaaGreat
open Go.RowKit Cw
attribute [local go_sem] Oper.semAt_some

set_option maxHeartbeats 2000000 in
theorem Back19_any (l:List Int)(x:Int)(A:Option Addr)(n c:Nat)(w:World)(h:Rd w w.heap.size A l)(hn:l.length=n)(hl:n≤1000000) :
  Calls Tryz.prog 126 #[.slice A n c,.int .i64 x] w fun e w'=>e=.returned (.int .i64 (bkI l x))∧Below w.heap.size w w':=by
 replace hn:=Lib.hid hn;go_enter Tryz.func126,Tryz.ntmps126;go_wp2_with (fail);go_loopw [5] (fun i wr=>∃ k:Nat,k≤n∧i=.int .i64 k∧(∀ j,j<k→l[j]?.getD 0≠x)∧Below w.heap.size w wr) (fun i _=>n - (intOf i).toNat)
 case atStart=>exact⟨0,by omega,rfl,fun j hj=>absurd hj (Nat.not_lt_zero _),Below.refl _ _⟩
 case round =>
  obtain⟨k,hk,rfl,hin,hbw⟩:=hrel;obtain⟨w2,rfl⟩:∃ w2:World,w2=wr:=⟨_,rfl⟩;by_cases hlt:k<n
  ·obtain⟨b1,o1,rfl,hb1,hc1⟩:=h.at_ (by rw[hn.out]; exact hlt);have hd1:=(hbw.cell (p:=⟨b1,o1+k,none⟩) hb1).trans hc1;obtain⟨y,hy⟩:∃ y,y=l[k]?.getD 0:=⟨_,rfl⟩;rw[←hy]at hd1;have k0:(0:Int)≤(k:Int):=by omega
   have k1:(k:Int)<(n:Int):=by omega
   by_cases hq:y=x
   ·have hz:(y==x)=true:=by rw[beq_iff_eq]; exact hq
    have he:Hid (bkI l x=(k:Int)):=bkI_at (by rw[hn.out]; exact hlt) (by rw[←hy]; exact hq) hin;clear hc1 hy hin hq;go_wp2_with (fail);go_ret;exact⟨by rw[he.out]; rfl,hbw⟩
   ·have hz:(y==x)=false:=by rw[beq_eq_false_iff_ne]; exact hq
    have hin2:Hid (∀ j,j<k+1→l[j]?.getD 0≠x):=fun j hj=>by
     by_cases e:j=k
     ·rw[e,←hy]; exact hq
     ·exact hin j (by omega)
    clear hc1 hy hin hq;go_wp2_with (fail);go_roundw
    case rel=>exact⟨k+1,by omega,by go_num,hin2.out,hbw⟩
    case measure=>simp[intOf]; omega
  ·obtain rfl:k=n:=by omega
   have he:Hid (bkI l x=0):=bkI_no (by rw[hn.out]; exact hin);clear hin;go_wp2_with (fail);go_ret;exact⟨by rw[he.out]; rfl,hbw⟩
theorem eli_pX (D:Desc){k:Nat} (hk:k<D.m):eli D ((D.p ^ k:Nat):Int)=pw (Xc D) k:=by
 have hp:=D.p2;have hq:D.p ^ k<D.q:=Nat.pow_lt_pow_right (by omega) hk;rw[eli_nat hq,pwX hk];refine R.ext' fun i hi=>?_
 rw[rel_v hi,basis_v hi];rcases Nat.lt_trichotomy i k with h | h | h
 ·rw[if_neg (by omega),Nat.pow_div (by omega) (by omega)];obtain⟨d,hd⟩:∃ d,k - i=d+1:=⟨k - i - 1,by omega⟩;rw[hd,Nat.pow_succ];exact zp_eq (by rw[Nat.mul_mod_left,Nat.zero_mod])
 ·subst h;rw[if_pos rfl,Nat.div_self (Nat.pow_pos (by omega))];exact zp_one
 ·rw[if_neg (by omega),Nat.div_eq_of_lt (Nat.pow_lt_pow_right (by omega) h)];exact zp_zero
def xvN (D:Desc)(k:Nat):Nat:=D.p ^ min k (D.m - 1)
theorem xvN_eli (D:Desc){k:Nat} (hk:k<D.m):eli D (xvN D k:Int)=pw (Xc D) k:=by
 unfold xvN;rw[show min k (D.m - 1)=k from by omega];exact eli_pX D hk
theorem xvN_le (D:Desc)(k:Nat):xvN D k≤256:=by
 have h1:=D.m1;have h2:D.p ^ min k (D.m - 1)<D.q:=Nat.pow_lt_pow_right (by have:=D.p2; omega) (by omega);have:=D.q256;unfold xvN;omega
theorem xvN_zero (D:Desc):xvN D 0=1:=by unfold xvN; rw[Nat.zero_min,Nat.pow_zero]
theorem xvN_yes (D:Desc){k:Nat} (h:k+1<D.m):xvN D (k+1)=xvN D k*D.p:=by
 unfold xvN;rw[show min (k+1) (D.m - 1)=min k (D.m - 1)+1 from by omega,Nat.pow_succ]
theorem xvN_no (D:Desc){k:Nat} (h:¬ k+1<D.m)(hk:k<D.m):xvN D (k+1)=xvN D k:=by
 unfold xvN;rw[show min (k+1) (D.m - 1)=min k (D.m - 1) from by omega]
theorem cd_keep {S F:FD} {pts:List Int} {B:Option Addr} {s bc oc i br or_ cr j b:Nat} {y:Int} {W W':World} {H:Nat} (hb:Below H W W')(h1:s+1<H)(h2:bc<H)(h3:br<H)(h:W.cell? ⟨s,1,none⟩=some (.int .i64 S.m)∧W.cell? ⟨s+1,0,none⟩=some (.int .i64 F.p)∧W.cell? ⟨s+1,1,none⟩=some (.int .i64 F.m)∧W.cell? ⟨s+1,2,none⟩=some (.slice B F.mod.length b)∧W.cell? ⟨bc,oc+i,none⟩=some (.slice (some ⟨br,or_,none⟩) pts.length cr)∧W.cell? ⟨br,or_+j,none⟩=some (.int .i64 y)):W'.cell? ⟨s,1,none⟩=some (.int .i64 S.m)∧W'.cell? ⟨s+1,0,none⟩=some (.int .i64 F.p)∧W'.cell? ⟨s+1,1,none⟩=some (.int .i64 F.m)∧W'.cell? ⟨s+1,2,none⟩=some (.slice B F.mod.length b)∧W'.cell? ⟨bc,oc+i,none⟩=some (.slice (some ⟨br,or_,none⟩) pts.length cr)∧W'.cell? ⟨br,or_+j,none⟩=some (.int .i64 y) :=
 ⟨(hb.cell (p:=⟨s,1,none⟩) (Nat.lt_of_succ_lt h1)).trans h.1,(hb.cell (p:=⟨s+1,0,none⟩) h1).trans h.2.1,(hb.cell (p:=⟨s+1,1,none⟩) h1).trans h.2.2.1,(hb.cell (p:=⟨s+1,2,none⟩) h1).trans h.2.2.2.1,(hb.cell (p:=⟨bc,oc+i,none⟩) h2).trans h.2.2.2.2.1,(hb.cell (p:=⟨br,or_+j,none⟩) h3).trans h.2.2.2.2.2⟩
theorem cd_keep3 {S:FD} {A:Option Addr} {s c:Nat} {W W':World} {H:Nat} (hb:Below H W W')(h1:s<H)(h:W.cell? ⟨s,0,none⟩=some (.int .i64 S.p)∧W.cell? ⟨s,1,none⟩=some (.int .i64 S.m)∧W.cell? ⟨s,2,none⟩=some (.slice A S.mod.length c)):W'.cell? ⟨s,0,none⟩=some (.int .i64 S.p)∧W'.cell? ⟨s,1,none⟩=some (.int .i64 S.m)∧W'.cell? ⟨s,2,none⟩=some (.slice A S.mod.length c) :=
 ⟨(hb.cell (p:=⟨s,0,none⟩) h1).trans h.1,(hb.cell (p:=⟨s,1,none⟩) h1).trans h.2.1,(hb.cell (p:=⟨s,2,none⟩) h1).trans h.2.2⟩
def C19Post (S F:FD)(r:R F.toDesc)(N t:Nat)(h:Nat→Nat→R F.toDesc)(w:World)(e:Ending)(w':World):Prop :=
 ∃ (k:Nat) (C:Nat→Nat→R S.toDesc) (A3:Option Addr) (c3:Nat) (Al:Option Addr) (cl:Nat),e=.returned (.agg #[.int .i64 S.p,.int .i64 S.m,.slice A3 S.mod.length c3,.int .i64 N,.slice Al k cl]) ∧
  VC S.p S.m N (modL S.toDesc) k (rowsL S.toDesc N C) S N C∧(∀ u,Span k N C u↔Meets S F r N t h u)∧Rd w' w'.heap.size A3 (modL S.toDesc)∧(∀ b,A3=some b→w.heap.size≤b.block)∧RdMU w' w.heap.size w'.heap.size Al k (rowsL S.toDesc N C)∧Below w.heap.size w w'
set_option maxRecDepth 100000 in
set_option maxHeartbeats 16000000 in
theorem Code19_any (S F:FD)(rt kn:Nat)(pts mul:List Int)(A B A1 A2:Option Addr)(c b c1 c2:Nat)(w:World)(hS:Good S.p S.m (modL S.toDesc))(hp:S.p=F.p)(hrt:IsRt S F rt)(hdv:S.m∣F.m)(hr:Rd w w.heap.size A (modL S.toDesc))(hrB:Rd w w.heap.size B (modL F.toDesc))(hr1:Rd w w.heap.size A1 pts)(hr2:Rd w w.heap.size A2 mul)
  (hlen:mul.length=pts.length) (hn1:1≤pts.length) (hn64:pts.length≤64) (hkn:kn≤pts.length) :
  Calls Tryz.prog 57 #[.agg #[.int .i64 S.p,.int .i64 S.m,.slice A S.mod.length c],.agg #[.int .i64 F.p,.int .i64 F.m,.slice B F.mod.length b,.int .i64 (kn:Int),.slice A1 pts.length c1,.slice A2 mul.length c2]] w (C19Post S F (rel F.toDesc rt) pts.length (pts.length - kn) (altH F pts mul) w):=by
 have hSq:=S.toDesc.q256;have hSm:=S.m8;have hSm1:=S.m1;have hFm:=F.m8;have hFm1:=F.m1;have hFp:=F.p256;obtain⟨t,ht⟩:∃ t,t=pts.length - kn:=⟨_,rfl⟩;have ht64:t≤64:=by omega
 have hti:(pts.length:Int) - (kn:Int)=(t:Int):=by omega
 have hDu:=fun W x1 x2 x3=>Lib.hid (Dual18_any F (kn:Int) pts mul B A1 A2 b c1 c2 W x1 x2 x3 hlen hn64 (by omega) (by omega))
 have hRo:=fun A5 c5 W a b' c'=>Lib.hid (Rows18_any F.toDesc t pts (dualL F pts mul) B A1 A5 b c1 c5 W a b' c' (dualL_length F pts mul) hn64 ht64)
 obtain⟨h,hh⟩:∃ h,h=altH F pts mul:=⟨_,rfl⟩;have hrw:Hid (rowsW F.toDesc pts (dualL F pts mul)=rowsL F.toDesc pts.length h):=by rw[hh]; exact rowsW_eq F.toDesc pts (dualL F pts mul)
 rw[←ht,←hh];rw[hti]at hDu;rw[dualL_length,hrw.out]at hRo;obtain⟨M,hM⟩:∃ M,M=trM S F rt h:=⟨_,rfl⟩;have hsp1:∀ u,Orth (t*F.m) pts.length M u↔Meets S F (rel F.toDesc rt) pts.length t h u:=fun u=>by rw[hM]; exact orth_tr hp hrt.2.1 hdv
 obtain⟨K,hK⟩:∃ K,K=nuK S (t*F.m) pts.length M:=⟨_,rfl⟩;obtain⟨NM,hNM⟩:∃ NM,NM=nuM S (t*F.m) pts.length M:=⟨_,rfl⟩;have htm:t*F.m≤64*8:=Nat.mul_le_mul ht64 hFm;have hNu:∀ Ar cr W,Rd W W.heap.size A (modL S.toDesc)→RdM W W.heap.size Ar (t*F.m) (rowsL S.toDesc pts.length M)→Hid (Calls Tryz.prog 128 #[.agg #[.int .i64 S.p,.int .i64 S.m,.slice A S.mod.length c],.slice Ar (t*F.m) cr,.int .i64 pts.length] W fun e w'=>∃ Al cl,e=.returned (.slice Al K cl)∧RdM w' w'.heap.size Al K (rowsL S.toDesc pts.length NM)∧Below W.heap.size W w'):=fun Ar cr W a b'=>by
  refine (Null9_any S (t*F.m) pts.length M A Ar c cr W a b' (by omega) (by omega)).mono ?_;rintro e w' ⟨p,rfl,Al,cl,rfl,hb,hrd⟩;rw[hK,hNM];exact⟨Al,cl,rfl,hrd.rdm,hb⟩
 have hKle:K≤64:=by rw[hK]; exact Nat.le_trans (nuK_le _ _ _) hn64
 obtain⟨kk,hkk⟩:∃ kk,kk=rkS S K pts.length NM:=⟨_,rfl⟩;obtain⟨C,hC⟩:∃ C,C=(elS K NM pts.length).1:=⟨_,rfl⟩;have hspan:Hid (∀ u,Span kk pts.length C u↔Meets S F (rel F.toDesc rt) pts.length t h u):=fun u=>by
  rw[hkk,hC,hNM,hK];exact (nu_span u).trans (hsp1 u)
 have hvc:Hid (VC S.p S.m pts.length (modL S.toDesc) kk (rowsL S.toDesc pts.length C) S pts.length C):=by
  rw[hkk,hC];exact Lib.hid (vc_res S hS K pts.length NM hn1 hn64)
 have hMk:∀ Ar cr W,Rd W W.heap.size A (modL S.toDesc)→RdM W W.heap.size Ar K (rowsL S.toDesc pts.length NM)→Hid (Calls Tryz.prog 77 #[.agg #[.int .i64 S.p,.int .i64 S.m,.slice A S.mod.length c],.slice Ar K cr,.int .i64 pts.length] W fun e w'=>∃ A3 c3 Al cl,e=.returned (.agg #[.int .i64 S.p,.int .i64 S.m,.slice A3 S.mod.length c3,.int .i64 pts.length,.slice Al kk cl])∧Rd w' w'.heap.size A3 (modL S.toDesc)∧(∀ b,A3=some b→W.heap.size≤b.block)∧RdMU w' W.heap.size w'.heap.size Al kk (rowsL S.toDesc pts.length C)∧Below W.heap.size W w'):=fun Ar cr W a b'=>by
  rw[hkk,hC];exact Lib.hid (Make12_any S K pts.length NM A Ar c cr W a b' (by omega) (by omega))
 have hbk:∀ y:R F.toDesc,bkI (embL S F rt) (ci y)=ci (bk S F (rel F.toDesc rt) y):=fun y=>bkI_emb hp hrt.2.1 y
 have hEm:=fun W a b'=>Lib.hid (Embed7_any S F rt A B c b W a b' hp hrt)
 have hmk:=mk_ints pts.length (by omega);have htH:=Lib.hid ht;have hsm0:=Lib.hid hSm1;replace hbk:=Lib.hid hbk;clear hsp1 hK hNM hkk hC hlen hkn hti hp hrt hdv hS ht hh;obtain⟨s,hs⟩:∃ s,s=w.heap.size:=⟨_,rfl⟩;obtain⟨Z,hZ⟩:∃ Z,Z=((w.alloc (.cells #[.int .i64 S.p,.int .i64 S.m,.slice A S.mod.length c] 24)).alloc (.cells #[.int .i64 F.p,.int .i64 F.m,.slice B F.mod.length b,.int .i64 (kn:Int),.slice A1 pts.length c1,.slice A2 mul.length c2] 72)).alloc (.cells #[.int .i64 0,.int .i64 0,.slice none 0 0,.int .i64 0,.slice none 0 0] 27):=⟨_,rfl⟩;have hB:Below w.heap.size w Z:=by rw[hZ]; exact (((Below.refl _ _).alloc (Nat.le_refl _) _).alloc (by simp) _).alloc (by simp; omega) _
 have hZs:Z.heap.size=s+1+1+1:=by rw[hZ,hs]; simp
 have hbA:Hid (Bxs Z s [.int .i64 S.p,.int .i64 S.m,.slice A S.mod.length c]):=by rw[hZ,hs]; exact ((Bxs.new w _ _).keep ((Below.refl _ _).alloc (Nat.le_refl _) _) (by simp)).keep ((Below.refl _ _).alloc (Nat.le_refl _) _) (by simp; omega)
 have hbG:Hid (Bxs Z (s+1) [.int .i64 F.p,.int .i64 F.m,.slice B F.mod.length b,.int .i64 (kn:Int),.slice A1 pts.length c1,.slice A2 mul.length c2]):=by
  rw[hZ,hs];have h9:=Bxs.new (w.alloc (.cells #[.int .i64 S.p,.int .i64 S.m,.slice A S.mod.length c] 24)) [.int .i64 F.p,.int .i64 F.m,.slice B F.mod.length b,.int .i64 (kn:Int),.slice A1 pts.length c1,.slice A2 mul.length c2] 72;rw[World.size_alloc]at h9;exact h9.keep ((Below.refl _ _).alloc (Nat.le_refl _) _) (by simp)
 have hbR:Hid (Bxs Z (s+1+1) [.int .i64 0,.int .i64 0,.slice none 0 0,.int .i64 0,.slice none 0 0]):=by
  rw[hZ,hs];have h9:=Bxs.new ((w.alloc (.cells #[.int .i64 S.p,.int .i64 S.m,.slice A S.mod.length c] 24)).alloc (.cells #[.int .i64 F.p,.int .i64 F.m,.slice B F.mod.length b,.int .i64 (kn:Int),.slice A1 pts.length c1,.slice A2 mul.length c2] 72)) [.int .i64 0,.int .i64 0,.slice none 0 0,.int .i64 0,.slice none 0 0] 27;rw[World.size_alloc,World.size_alloc]at h9;exact h9
 have hq:=hDu Z ((hrB.below hB).more hB.size) ((hr1.below hB).more hB.size) ((hr2.below hB).more hB.size);have hsZ:s+1+1<Z.heap.size:=by omega
 replace hZ:=Lib.hid hZ;replace hZs:=Lib.hid hZs;clear hDu;unfold C19Post;go_enter Tryz.func57,Tryz.ntmps57;obtain⟨a0,a1,a2⟩:=hbA.out.c3;obtain⟨d0,d1,d2,d3,d4,d5⟩:=hbG.out.c6;go_wp2_with (fail);rw[←hZ.out];simp only[←hs];have hsw:w.heap.size≤s:=Nat.le_of_eq hs.symm;replace hs:=Lib.hid hs;go_wp2_with (fail);(with_reducible refine hq.out.mono ?_);rintro e w1 ⟨g1,rfl,hrd1,hb1⟩;clear hq;have hB1:=hB.trans (hb1.mono hB.size);have hq:=hRo (some ⟨g1,0,none⟩) pts.length w1 ((hrB.below hB1).more hB1.size) ((hr1.below hB1).more hB1.size) hrd1;clear hRo hrd1;go_wp2_with (fail);(with_reducible refine hq.out.mono ?_);rintro e w2 ⟨v2,rfl,hown2,hb2⟩;obtain⟨Ac,cc,rfl,hrc⟩:=hown2.rdm;clear hq hown2 a0 a1 a2 d0 d1 d2 d3 d4 d5;have hZ2:=hb1.trans (hb2.mono hb1.size);have hB2:=hB.trans (hZ2.mono hB.size);have hq:=hEm w2 ((hr.below hB2).more hB2.size) ((hrB.below hB2).more hB2.size);obtain⟨a0,a1,a2⟩:=(hbA.out.keep hZ2 (by omega)).c3;obtain⟨d0,d1,d2,d3,d4,d5⟩:=(hbG.out.keep hZ2 (by omega)).c6;clear hEm;go_wp2_with (fail);(with_reducible refine hq.out.mono ?_);rintro e w3 ⟨v3,rfl,hown3,hb3⟩;obtain⟨Ae,ce,rfl,hce,hre,hAe⟩:=hown3.form;rw[embL_length]at hce ⊢;clear hq hown3 a0 a1 a2 d0 d1 d2 d3 d4 d5;have hZ3:=hZ2.trans (hb3.mono hZ2.size);have hB3:=hB.trans (hZ3.mono hB.size);obtain⟨L,hL⟩:∃ L,L=w3.heap.size:=⟨_,rfl⟩;have hrc3:=(hrc.below hb3).more hb3.size;have hsL:s+1+1<L:=by rw[hL]; exact Nat.lt_of_lt_of_le hsZ hZ3.size
 have hwL:w.heap.size≤L:=by rw[hL]; exact hB3.size
 have hbA3:Hid (Bxs w3 s [.int .i64 S.p,.int .i64 S.m,.slice A S.mod.length c]):=hbA.out.keep hZ3 (by omega);have hbG3:Hid (Bxs w3 (s+1) [.int .i64 F.p,.int .i64 F.m,.slice B F.mod.length b,.int .i64 (kn:Int),.slice A1 pts.length c1,.slice A2 mul.length c2]):=hbG.out.keep hZ3 (by omega);have hbR3:Hid (Bxs w3 (s+1+1) [.int .i64 0,.int .i64 0,.slice none 0 0,.int .i64 0,.slice none 0 0]):=hbR.out.keep hZ3 hsZ;have hrA3:=(hr.below hB3).more hB3.size;have hrB3:=(hrB.below hB3).more hB3.size;rw[←hL]at hrc3 hre hrA3 hrB3;replace hL:=Lib.hid hL;clear hrc hr hrB hr1 hr2 hbA hbG hbR hAe hce;obtain⟨d0,d1,d2,d3,d4,d5⟩:=hbG3.out.c6;go_wp2_with (fail);clear d0 d1 d2 d3 d4 d5;go_loopw [9,8,10,11,12,13] (fun iS vS _ _ _ _ wr=>∃ i:Nat,i≤t∧iS=.int .i64 i∧OwnM wr L vS (i*F.m) (rowsL S.toDesc pts.length M)∧Below L w3 wr) (fun iS _ _ _ _ _ _=>t - (intOf iS).toNat)
 case atStart=>exact⟨0,by omega,rfl,by rw[Nat.zero_mul]; exact OwnM.nil _ _ _,Below.refl _ _⟩
 case round =>
  obtain⟨i,hi,rfl,hown,hbw⟩:=hrel;obtain⟨w4,rfl⟩:∃ w4:World,w4=wr:=⟨_,rfl⟩;have hL4:L≤w4.heap.size:=Nat.le_trans (Nat.le_of_eq hL.out) hbw.size;by_cases hit:i<t
  ·have hi0:(0:Int)≤(i:Int):=by omega
   have hi1:(i:Int)<(t:Int):=by omega
   obtain⟨Av,cv,rfl⟩:=hown.size;have hx1:=xvN_zero F.toDesc;replace hx1:=Lib.hid hx1;go_wp2_with (fail);go_loopw [11,8,10,12,13] (fun kS vS xS _ _ wr=>∃ k:Nat,k≤F.m∧kS=.int .i64 k∧xS=.int .i64 (xvN F.toDesc k:Int)∧OwnM wr L vS (i*F.m+k) (rowsL S.toDesc pts.length M)∧Below L w3 wr) (fun kS _ _ _ _ _=>F.m - (intOf kS).toNat)
   case atStart=>exact⟨0,by omega,rfl,by rw[hx1.out]; rfl,hown,hbw⟩
   case round =>
    clear hown hbw hL4;obtain⟨k,hk,rfl,rfl,hown4,hbw4⟩:=hrel;obtain⟨w4,rfl⟩:∃ w4:World,w4=wr:=⟨_,rfl⟩;have hL4:L≤w4.heap.size:=Nat.le_trans (Nat.le_of_eq hL.out) hbw4.size;have hbA4:=Lib.hid (hbA3.out.keep hbw4 (by omega));have hbG4:=Lib.hid (hbG3.out.keep hbw4 (by omega));obtain⟨d0,d1,d2,d3,d4,d5⟩:=hbG4.out.c6;by_cases hkm:k<F.m
    ·have hk0:(0:Int)≤(k:Int):=by omega
     have hk1:(k:Int)<(F.m:Int):=by omega
     obtain⟨bc,oc,Ar,cr,rfl,hbc,hcc,hrr,-⟩:=hrc3.at_ hit;rw[rowsL_length]at hcc;have hcc3:=Lib.hid hcc;obtain⟨br,or_,rfl,hbr,hcr⟩:=hrr (by rw[rowsL_length]; exact hn1);rw[rowsL_length]at hcr;obtain⟨g,hg⟩:∃ g,g=w4.heap.size:=⟨_,rfl⟩;obtain⟨Y,hY⟩:∃ Y,Y=w4.alloc (.cells (Array.replicate pts.length (Value.int .i64 0)) 3):=⟨_,rfl⟩;obtain⟨X,hX⟩:∃ X:Nat,X=xvN F.toDesc k:=⟨_,rfl⟩;have hXe:Hid (eli F.toDesc (X:Int)=pw (Xc F.toDesc) k):=by rw[hX]; exact xvN_eli F.toDesc hkm
     have hXle:X≤256:=by rw[hX]; exact xvN_le F.toDesc k
     obtain⟨f,hf⟩:∃ f:Nat→Int,f=fun j=>ci (M (i*F.m+k) j):=⟨_,rfl⟩
     have hfj:Hid (∀ j,f j=ci (bk S F (rel F.toDesc rt) (tr S.m (pw (Xc F.toDesc) k*h i j)))):=fun j=>by
      rw[hf,hM];unfold trM;rw[Nat.mul_comm i F.m,(divmod_mul hkm).1,(divmod_mul hkm).2]
     have hrow:Hid (lst pts.length f=rowsL S.toDesc pts.length M (i*F.m+k)):=by rw[hf]; exact Lib.hid rfl
     have hbY:Below g w4 Y:=by rw[hY,hg]; exact (Below.refl _ _).alloc (Nat.le_refl _) _
     have hib0:Hid (IB Y g (upd pts.length 0 f)):=by rw[hY,hg,upd_zero]; exact Lib.hid (IB.newz w4 pts.length)
     have hLg:L≤g:=by rw[hg]; exact hL4
     have hownH:=hown4;obtain⟨Av4,cv4,rfl⟩:=hown4.size;rw[←hX];replace hY:=Lib.hid hY;replace hX:=Lib.hid hX;replace hf:=Lib.hid hf;clear hcc hown4;go_wp2_with (fail);rw[←hY.out];simp only[←hg];replace hg:=Lib.hid hg;clear d0 d1 d2 d3 d4 d5;go_loopw [13] (fun jS wr=>∃ j:Nat,j≤pts.length∧jS=.int .i64 j∧Hid (IB wr g (upd pts.length j f))∧Below g w4 wr) (fun jS _=>pts.length - (intOf jS).toNat)
     case atStart=>exact⟨0,by omega,rfl,hib0,hbY⟩
     case round =>
      clear hib0 hbY;obtain⟨j,hj,rfl,hib5,hb5⟩:=hrel;obtain⟨w5,rfl⟩:∃ w5:World,w5=wr:=⟨_,rfl⟩;have hL5:=hbw4.trans (hb5.mono hLg);have hg5:=hib5.out.lt;by_cases hjn:j<pts.length
      ·have hj0:(0:Int)≤(j:Int):=by omega
       have hj1:(j:Int)<(pts.length:Int):=by omega
       have hcy:=hcr j hjn;rw[rowsL_get _ _ _ hjn]at hcy;obtain⟨y,hy⟩:∃ y,y=ci (h i j):=⟨_,rfl⟩;rw[←hy]at hcy;have hMu:=fun W a=>Mul_any F.toDesc (X:Int) y B b W a
       rw[hXe.out,hy,eli_ci,←hy]at hMu;obtain⟨m1,hm1⟩:∃ m1,m1=ci (pw (Xc F.toDesc) k*h i j):=⟨_,rfl⟩;rw[←hm1]at hMu;have hTr:=fun W a=>Trace7_any F m1 S.m B b W a hsm0.out hSm
       rw[hm1,eli_ci,←hm1]at hTr;obtain⟨m2,hm2⟩:∃ m2,m2=ci (tr S.m (pw (Xc F.toDesc) k*h i j)):=⟨_,rfl⟩;rw[←hm2]at hTr;have hBa:=fun W a=>Back19_any (embL S F rt) m2 Ae S.q ce W a (embL_length S F rt) (by omega)
       rw[hm2,hbk.out,←hm2,←hfj.out j]at hBa;obtain⟨z,hz⟩:∃ z,z=f j:=⟨_,rfl⟩;rw[←hz]at hBa;have hbA5:=hbA3.out.keep hL5 (by omega);have hbG5:=hbG3.out.keep hL5 (by omega);have hcd:Hid (w5.cell? ⟨s,1,none⟩=some (.int .i64 S.m)∧w5.cell? ⟨s+1,0,none⟩=some (.int .i64 F.p)∧w5.cell? ⟨s+1,1,none⟩=some (.int .i64 F.m)∧w5.cell? ⟨s+1,2,none⟩=some (.slice B F.mod.length b)∧w5.cell? ⟨bc,oc+i,none⟩=some (.slice (some ⟨br,or_,none⟩) pts.length cr)∧w5.cell? ⟨br,or_+j,none⟩=some (.int .i64 y)):=⟨hbA5.c3.2.1,hbG5.c6.1,hbG5.c6.2.1,hbG5.c6.2.2.1,(hL5.cell (p:=⟨bc,oc+i,none⟩) hbc).trans hcc3.out,(hL5.cell (p:=⟨br,or_+j,none⟩) hbr).trans hcy⟩;have hs5:L≤w5.heap.size:=Nat.le_trans hLg (Nat.le_of_lt hg5);have hset:=hib5.out.set_ j z;have hkS:s+1<w5.heap.size:=by omega
       have hkC:bc<w5.heap.size:=by omega
       have hkR:br<w5.heap.size:=by omega
       have hgS:g≠s:=by omega
       have hgS1:g≠s+1:=by omega
       have hgC:g≠bc:=by omega
       have hgR:g≠br:=by omega
       have hMu5:=hMu w5.drew ((hrB3.below hL5).more hs5);replace hMu5:=Lib.hid hMu5;have hTr5:=fun W (hbx:Below w5.heap.size w5 W)=>Lib.hid (hTr W ((hrB3.below (hL5.trans (hbx.mono hs5))).more (Nat.le_trans hs5 hbx.size)))
       have hBa5:=fun W (hbx:Below w5.heap.size w5 W)=>Lib.hid (hBa W ((hre.below (hL5.trans (hbx.mono hs5))).more (Nat.le_trans hs5 hbx.size)))
       replace hy:=Lib.hid hy;replace hm1:=Lib.hid hm1;replace hm2:=Lib.hid hm2;replace hz:=Lib.hid hz;clear hcy hMu hTr hBa hset;go_wp2_with (fail);refine wp_region_held_drew (S:=fun w'=>w'.cell? ⟨s,1,none⟩=some (.int .i64 S.m)∧w'.cell? ⟨s+1,0,none⟩=some (.int .i64 F.p)∧w'.cell? ⟨s+1,1,none⟩=some (.int .i64 F.m)∧w'.cell? ⟨s+1,2,none⟩=some (.slice B F.mod.length b)∧w'.cell? ⟨bc,oc+i,none⟩=some (.slice (some ⟨br,or_,none⟩) pts.length cr)∧w'.cell? ⟨br,or_+j,none⟩=some (.int .i64 y)) (by kernel_rfl) (by (try dsimp only); exact hcd.out) (fun hHeld=>?_);refine tk 0 ?_; try simp only[pS]
       refine tk 1 ?_; try simp only[pS]
       refine tk 2 ?_; try simp only[pS]
       refine tk 3 ?_; try simp only[pS]
       refine tk 4 ?_; try simp only[pS]
       refine tk 5 ?_; try simp only[pS]
       refine tk 6 ?_; try simp only[pS]
       refine tk 7 ?_; try simp only[pS]
       refine tk 8 ?_; try simp only[pS]
       refine tk 9 ?_; try simp only[pS]
       refine tk 10 ?_; try simp only[pS]
       refine tk 11 ?_; try simp only[pS]
       refine tk 12 ?_; try simp only[pS]
       refine tk 13 ?_; try simp only[pS]
       refine tk 14 ?_; try simp only[pS]
       refine tk 16 ?_; try simp only[pS]
       refine tk 17 ?_; try simp only[pS]
       refine rd 15 fun K hK=>?_
       go_simp;go_at_call 29;(with_reducible refine (hMu5).out.mono ?_);rintro e w6 ⟨rfl,hb6⟩;have hb56:=(Below.refl w5.heap.size w5).drew.trans hb6;have hcd6:=Lib.hid (cd_keep hb56 hkS hkC hkR hcd.out);have hTr6:=hTr5 w6 hb56;go_wp2_with (fail);refine hK.out _ _ (by (try dsimp only); exact hcd6.out) (fun hHeld=>?_);clear hK K;try simp only[pS]
       refine rd 18 fun K hK=>?_
       go_simp;go_at_call 127;(with_reducible refine (hTr6).out.mono ?_);rintro e w7 ⟨rfl,hb7⟩;have hb57:=hb56.trans (hb7.mono hb56.size);have hcd7:=Lib.hid (cd_keep hb57 hkS hkC hkR hcd.out);have hBa7:=hBa5 w7 hb57;go_wp2_with (fail);refine hK.out _ _ (by (try dsimp only); exact hcd7.out) (fun hHeld=>?_);clear hK K;try simp only[pS]
       refine rd 19 fun K hK=>?_
       go_simp;go_at_call 126;(with_reducible refine (hBa7).out.mono ?_);rintro e w8 ⟨rfl,hb8⟩;have hb58:=hb57.trans (hb8.mono hb57.size);have hcd8:=Lib.hid (cd_keep hb58 hkS hkC hkR hcd.out);have hib8:=hib5.out.below hb58 hg5;have hcW:=hib8.cell (i:=j) (by rw[upd_length]; exact hjn);have hfW:=hib8.frozen j;have hset:=hib8.set_ j z;rw[hz.out,upd_set,←hz.out]at hset;replace hset:=Lib.hid hset;have hb9:=Lib.hid ((hb5.trans (hb58.mono (Nat.le_of_lt hg5))).setCell (p:=⟨g,j,none⟩) (Nat.le_refl _) (.int .i64 z));obtain⟨W9,hW9⟩:∃ W9,W9=w8.setCell ⟨g,j,none⟩ (.int .i64 z):=⟨_,rfl⟩;have hcd9:Hid (W9.cell? ⟨s,1,none⟩=some (.int .i64 S.m)∧W9.cell? ⟨s+1,0,none⟩=some (.int .i64 F.p)∧W9.cell? ⟨s+1,1,none⟩=some (.int .i64 F.m)∧W9.cell? ⟨s+1,2,none⟩=some (.slice B F.mod.length b)∧W9.cell? ⟨bc,oc+i,none⟩=some (.slice (some ⟨br,or_,none⟩) pts.length cr)∧W9.cell? ⟨br,or_+j,none⟩=some (.int .i64 y)):=(by rw[hW9]; exact⟨(World.cell?_setCell_far _ _ _ _ hgS).trans hcd8.out.1,(World.cell?_setCell_far _ _ _ _ hgS1).trans hcd8.out.2.1,(World.cell?_setCell_far _ _ _ _ hgS1).trans hcd8.out.2.2.1,(World.cell?_setCell_far _ _ _ _ hgS1).trans hcd8.out.2.2.2.1,(World.cell?_setCell_far _ _ _ _ hgC).trans hcd8.out.2.2.2.2.1,(World.cell?_setCell_far _ _ _ _ hgR).trans hcd8.out.2.2.2.2.2⟩);rw[hW9]at hcd9;go_wp2_with (fail);refine hK.out _ _ (by (try dsimp only); exact hcd8.out) (fun hHeld=>?_);clear hK K;try simp only[pS]
       refine tk 20 ?_; try simp only[pS]
       refine rd 21 fun K hK=>?_
       go_simp;refine hK.out _ _ (by (try dsimp only); exact hcd9.out) (fun hHeld=>?_);clear hK K;try simp only[pS]
       refine wpAnyH_done (by kernel_rfl) ?_ _;go_wp2_with (fail);go_roundw
       case rel=>exact⟨j+1,by omega,by go_num,hset,hb9.out⟩
       case measure=>simp[intOf]; omega
      ·obtain rfl:pts.length=j:=by omega
       rw[upd_full,hrow.out]at hib5;have hr5:=hib5.out.rd;have hb45:=hb5;rw[hg.out]at hb45;have hown5:=hownH.below hb45 (Nat.le_refl _);have hs45:=hb45.size;have hik:i*F.m+k≤64*8+8:=by have:=Nat.mul_le_mul (show i≤64 by omega) hFm; omega
       have hg4:∀ a,some (⟨g,0,none⟩:Addr)=some a→w4.heap.size≤a.block:=fun a e=>by cases e; exact Nat.le_of_eq hg.out.symm
       have hXi:IntKind.i64.wrap ((k:Int)+1)=(k:Int)+1:=IntWalk.i64_in _ (by omega);have hXP:X*F.p≤256*256:=Nat.mul_le_mul hXle hFp;have hXw:IntKind.i64.wrap ((X:Int)*(F.p:Int))=((X*F.p:Nat):Int):=by rw[IntWalk.i64_in _ (by rw[←Int.natCast_mul]; omega),Int.natCast_mul]
       have hk5:=fun (W:World) (hbx:Below L w5 W)=>hbG3.out.keep (hL5.trans hbx) (show s+1<L by omega)
       clear hib5 hcr hcc3;by_cases hlast:k+1<F.m
       ·have hl1:(k:Int)+1<(F.m:Int):=by omega
        have hxn:Hid (xvN F.toDesc (k+1)=X*F.p):=by rw[hX.out]; exact xvN_yes F.toDesc hlast
        go_wp2_with (at_builtin; refine wpList_appRow rfl (.tmp 65) (.tmp 67) rfl L _ (i*F.m+k) _ hown5 (some ⟨g,0,none⟩) pts.length pts.length hr5 (rowsL_length _ _ _ _) (Nat.le_refl _) (by unfold maxLen; omega) w4.heap.size hownH.lt0 hg4 hL4 rfl rfl rfl (by omega) (Nat.le_trans hL4 hs45) ?_; intro v6 w6 ho6 hb6; obtain⟨d0,d1,d2,d3,d4,d5⟩:=(hk5 w6 hb6).c6);go_roundw
        case rel=>exact⟨k+1,by omega,by go_num,by rw[hxn.out,Int.natCast_mul],ho6,hL5.trans hb6⟩
        case measure=>simp[intOf]; omega
       ·have hl1:¬ (k:Int)+1<(F.m:Int):=by omega
        have hxn:Hid (xvN F.toDesc (k+1)=X):=by rw[hX.out]; exact xvN_no F.toDesc hlast hkm
        go_wp2_with (at_builtin; refine wpList_appRow rfl (.tmp 65) (.tmp 67) rfl L _ (i*F.m+k) _ hown5 (some ⟨g,0,none⟩) pts.length pts.length hr5 (rowsL_length _ _ _ _) (Nat.le_refl _) (by unfold maxLen; omega) w4.heap.size hownH.lt0 hg4 hL4 rfl rfl rfl (by omega) (Nat.le_trans hL4 hs45) ?_; intro v6 w6 ho6 hb6; obtain⟨d0,d1,d2,d3,d4,d5⟩:=(hk5 w6 hb6).c6);go_roundw
        case rel=>exact⟨k+1,by omega,by go_num,by rw[hxn.out],ho6,hL5.trans hb6⟩
        case measure=>simp[intOf]; omega
    ·obtain rfl:F.m=k:=by omega
     go_wp2_with (fail);go_roundw
     case rel=>exact⟨i+1,by omega,by go_num,by rw[Nat.succ_mul]; exact hown4,hbw4⟩
     case measure=>simp[intOf]; omega
  ·obtain rfl:t=i:=by omega
   obtain⟨A9,c9,rfl,hr9⟩:=hown.rdm;have hbA4:=hbA3.out.keep hbw (show s<L by omega);have hbR4:=hbR3.out.keep hbw hsL;have hrA4:=(hrA3.below hbw).more hL4;have hN4:=hNu A9 c9 w4.drew hrA4.drew hr9.drew;have hcA:Hid (w4.cell? ⟨s,0,none⟩=some (.int .i64 S.p)∧w4.cell? ⟨s,1,none⟩=some (.int .i64 S.m)∧w4.cell? ⟨s,2,none⟩=some (.slice A S.mod.length c)):=hbA4.c3;have hs4:s+1+1<w4.heap.size:=by omega
   have hB4:=hB3.trans (hbw.mono hwL);have hbRH:=Lib.hid hbR4;clear hown hr9 hNu hbA4 hbR4;go_wp2_with (fail);refine wp_region_held_drew (S:=fun w'=>w'.cell? ⟨s,0,none⟩=some (.int .i64 S.p)∧w'.cell? ⟨s,1,none⟩=some (.int .i64 S.m)∧w'.cell? ⟨s,2,none⟩=some (.slice A S.mod.length c)) (by kernel_rfl) (by (try dsimp only); exact hcA.out) (fun hHeld=>?_);refine tk 0 ?_; try simp only[pS]
   refine tk 1 ?_; try simp only[pS]
   refine tk 2 ?_; try simp only[pS]
   refine tk 3 ?_; try simp only[pS]
   refine tk 5 ?_; try simp only[pS]
   refine rd 4 fun K hK=>?_
   go_simp;go_at_call 128;(with_reducible refine (hN4).out.mono ?_);rintro e w5 ⟨Al5,cl5,rfl,hrd5,hb5⟩;have hb45:=(Below.refl w4.heap.size w4).drew.trans hb5;have hcA5:=Lib.hid (cd_keep3 hb45 (Nat.lt_of_succ_lt (Nat.lt_of_succ_lt hs4)) hcA.out);have hM5:=hMk Al5 cl5 w5 ((hrA4.below hb45).more hb45.size) hrd5;go_wp2_with (fail);refine hK.out _ _ (by (try dsimp only); exact hcA5.out) (fun hHeld=>?_);clear hK K;try simp only[pS]
   refine rd 6 fun K hK=>?_
   go_simp;go_at_call 77;(with_reducible refine (hM5).out.mono ?_);rintro e w6 ⟨A6,c6,Al6,cl6,rfl,hr6,hA6,hru6,hb6⟩;have hb46:=hb45.trans (hb6.mono hb45.size);have hcA6:=Lib.hid (cd_keep3 hb46 (Nat.lt_of_succ_lt (Nat.lt_of_succ_lt hs4)) hcA.out);have hbR6:=hbRH.out.keep hb46 hs4;obtain⟨u0,u1,u2,u3,u4⟩:=hbR6.c5;obtain⟨v0,v1,v2,v3,v4⟩:=hbR6.f5;have hlow:=hb45.size;have hcA7:Hid ((stAll w6 (s+1+1) 0 [.int .i64 S.p,.int .i64 S.m,.slice A6 S.mod.length c6,.int .i64 pts.length,.slice Al6 kk cl6]).cell? ⟨s,0,none⟩=some (.int .i64 S.p)∧(stAll w6 (s+1+1) 0 [.int .i64 S.p,.int .i64 S.m,.slice A6 S.mod.length c6,.int .i64 pts.length,.slice Al6 kk cl6]).cell? ⟨s,1,none⟩=some (.int .i64 S.m)∧(stAll w6 (s+1+1) 0 [.int .i64 S.p,.int .i64 S.m,.slice A6 S.mod.length c6,.int .i64 pts.length,.slice Al6 kk cl6]).cell? ⟨s,2,none⟩=some (.slice A S.mod.length c)):=⟨(stAll_cell (by simp; omega) _ 0 w6).trans hcA6.out.1,(stAll_cell (by simp; omega) _ 0 w6).trans hcA6.out.2.1,(stAll_cell (by simp; omega) _ 0 w6).trans hcA6.out.2.2⟩;have hfin:Hid (C19Post S F (rel F.toDesc rt) pts.length t h w (.returned (.agg #[.int .i64 S.p,.int .i64 S.m,.slice A6 S.mod.length c6,.int .i64 pts.length,.slice Al6 kk cl6])) (stAll w6 (s+1+1) 0 [.int .i64 S.p,.int .i64 S.m,.slice A6 S.mod.length c6,.int .i64 pts.length,.slice Al6 kk cl6])):=(by refine⟨kk,C,A6,c6,Al6,cl6,rfl,hvc.out,hspan.out,by rw[stAll_size]; exact hr6.farS (fun a ha=>by have:=hA6 a ha; omega) _ 0,fun q hq=>by have:=hA6 q hq; omega,by rw[stAll_size]; exact (hru6.keepU fun p hp1 _=>stAll_cell (by omega) _ 0 w6).low (by omega),stAll_below (by omega) _ _ _ (hB4.trans (hb46.mono (Nat.le_trans hwL hL4)))⟩);clear hr6 hru6 hbR6;go_wp2_with (fail);refine hK.out _ _ (by (try dsimp only); exact hcA6.out) (fun hHeld=>?_);clear hK K;try simp only[pS]
   refine rd 7 fun K hK=>?_
   go_simp;refine hK.out _ _ (by (try dsimp only); exact hcA7.out) (fun hHeld=>?_);clear hK K;try simp only[pS]
   refine wpAnyH_done (by kernel_rfl) ?_ _;go_wp2_with (fail);exact bodyPost_ret (v:=.agg #[.int .i64 S.p,.int .i64 S.m,.slice A6 S.mod.length c6,.int .i64 pts.length,.slice Al6 kk cl6]) (by simp[results,Tryz.results57,go_sem,u0,u1,u2,u3,u4]) rfl hfin.out
end Go.Proofs.YtjdoneanohhkmaaGreat
