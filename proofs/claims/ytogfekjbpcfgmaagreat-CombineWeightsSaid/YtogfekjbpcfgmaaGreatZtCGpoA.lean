/- Entries that are elements; cells of a field and one more, kept. Plain algebra: a field of P^d elements has an image in each field of P^M elements with d dividing M. No Go here. The reference's value of a polynomial. The reference's polynomials: Canon. The image of one field in another: the numbers that the program computes. Layer 5 of the program: trim, Canon, combine. -/
import Derived.IntWalk
import Derived.Test.YtogfekjbpcfgmaaGreatZtCP1
import Derived.Test.YtogfekjbpcfgmaaGreatZtCRF
import Derived.Test.YtogfekjbpcfgmaaGreatZtCDot
namespace Go.Proofs.YtogfekjbpcfgmaaGreat
open Go.RowKit Cw

def elB (D:Desc)(l:List Int):Bool:=decide (∀ x∈l,0≤x∧x<(D.q:Int))
theorem elB_iff {D:Desc} {l:List Int}:elB D l=true↔∀ j,j<l.length→0≤l[j]?.getD 0∧l[j]?.getD 0<(D.q:Int):=by
 unfold elB;rw[decide_eq_true_iff];constructor
 ·intro h j hj;rw[List.getElem?_eq_getElem hj];exact h _ (List.getElem_mem _)
 ·intro h x hx;obtain⟨j,hj,rfl⟩:=List.getElem_of_mem hx;have:=h j hj
  rwa [List.getElem?_eq_getElem hj]at this
theorem keep4 {B b b1 o1:Nat} {W w1:World} {v0 v1 v2 v3:Value} (hb:Below B W w1)(h2:b<B)(h3:b1<B)(h4:W.cell? ⟨b,0,none⟩=some v0∧W.cell? ⟨b,1,none⟩=some v1∧W.cell? ⟨b,2,none⟩=some v2∧W.cell? ⟨b1,o1,none⟩=some v3) :
  w1.cell? ⟨b,0,none⟩=some v0∧w1.cell? ⟨b,1,none⟩=some v1∧w1.cell? ⟨b,2,none⟩=some v2∧w1.cell? ⟨b1,o1,none⟩=some v3 :=
 have k:=keep3 hb h2 ⟨h4.1,h4.2.1,h4.2.2.1⟩
 ⟨k.1,k.2.1,k.2.2,(hb.cell (p:=⟨b1,o1,none⟩) h3).trans h4.2.2.2⟩
theorem Bx.cells {w:World} {b:Nat} {D:Desc} {A:Option Addr} {n c:Nat} (h:Bx w b D A n c):w.cell? ⟨b,0,none⟩=some (.int .i64 D.p)∧w.cell? ⟨b,1,none⟩=some (.int .i64 D.m)∧w.cell? ⟨b,2,none⟩=some (.slice A n c):=h
end Go.Proofs.YtogfekjbpcfgmaaGreat

namespace Cw
open CField (inv)
section
variable {F:FD}
theorem nsm_modp {p:Nat} (hc:nsm p (1:R F.toDesc)=0)(n:Nat):nsm (n % p) (1:R F.toDesc)=nsm n 1:=by
 conv=>rhs; rw[←Nat.div_add_mod n p]
 rw[nsm_add,nsm_dvd hc (Nat.dvd_mul_right p (n / p)),zero_add]
variable {p:Nat} [NeZero p]
def kz (F:FD)(a:Zp p):R F.toDesc:=nsm a.val 1
theorem kz_add (hc:nsm p (1:R F.toDesc)=0)(a b:Zp p):kz F (a+b)=kz F a+kz F b:=by
 unfold kz; rw[Zp.add_val,nsm_modp hc,nsm_add]
theorem kz_mul (hc:nsm p (1:R F.toDesc)=0)(a b:Zp p):kz F (a*b)=kz F a*kz F b:=by
 unfold kz; rw[Zp.mul_val,nsm_modp hc,nsm_nsm,nsm_mul]
theorem kz_zero:kz F (0:Zp p)=0:=by unfold kz; rw[Zp.zero_val]; rfl
theorem kz_neg (hc:nsm p (1:R F.toDesc)=0)(a:Zp p):kz F (-a)=- kz F a:=neg_unique (by rw[←kz_add hc,add_neg,kz_zero])
theorem kz_sub (hc:nsm p (1:R F.toDesc)=0)(a b:Zp p):kz F (a - b)=kz F a - kz F b:=by rw[sub_d,kz_add hc,kz_neg hc,sub_d]
theorem kz_one (h2:2≤p):kz F (1:Zp p)=1:=by
 unfold kz;rw[show (1:Zp p).val=1 from by rw[←zp_one,zp_val,Nat.mod_eq_of_lt (by omega)],nsm_one]
theorem kz_rsum (hc:nsm p (1:R F.toDesc)=0)(n:Nat)(f:Nat→Zp p):kz F (rsum n f)=rsum n fun i=>kz F (f i):=by
 induction n with
 | zero=>exact kz_zero
 | succ n ih=>rw[rsum_succ,rsum_succ,kz_add hc,ih]
end
section
variable {S F:FD}
def phi (S F:FD)(r:R F.toDesc)(u:R S.toDesc):R F.toDesc:=rsum S.m fun i=>kz F (u.v i)*pw r i
def muV (S F:FD)(r:R F.toDesc):R F.toDesc:=pw r S.m+rsum S.m fun i=>kz F (S.c i)*pw r i
theorem phi_T (hc:nsm S.p (1:R F.toDesc)=0)(r:R F.toDesc)(u:R S.toDesc):phi S F r (T u)=r*phi S F r u - kz F (u.v (S.m - 1))*muV S F r:=by
 obtain⟨m',hm'⟩:∃ m',S.m=m'+1:=⟨S.m - 1,by have:=S.m1; omega⟩;unfold phi muV;have h1:rsum S.m (fun i=>kz F ((T u).v i)*pw r i)=rsum S.m (fun i=>(if i=0 then 0 else kz F (u.v (i - 1)))*pw r i) - kz F (u.v (S.m - 1))*rsum S.m (fun i=>kz F (S.c i)*pw r i):=by
  rw[←rsum_mul_left,←rsum_sub];refine rsum_congr fun i hi=>?_
  rw[T_v hi,kz_sub hc,kz_mul hc,sub_mul,mul_a]
  congr 2
  by_cases e:i=0
  ·rw[if_pos e,if_pos e]; exact kz_zero
  ·rw[if_neg e,if_neg e]
 rw[h1,hm',rsum_succ_left,if_pos rfl,zero_mul,zero_add,Nat.add_sub_cancel,rsum_succ m' (fun i=>kz F (u.v i)*pw r i),mul_add,mul_add,
  show r*rsum m' (fun i=>kz F (u.v i)*pw r i)=rsum m' (fun i=>(if i+1=0 then 0 else kz F (u.v (i+1 - 1)))*pw r (i+1)) from by
   rw[←rsum_mul_left];exact rsum_congr fun i _=>by rw[if_neg (by omega),Nat.add_sub_cancel,pw_succ',mul_lc]]
 rw[show r*(kz F (u.v m')*pw r m')=kz F (u.v m')*pw r (m'+1) from by rw[pw_succ',mul_lc]];simp only[sub_d,neg_add_d];rw[add_a,←add_a (kz F (u.v m')*pw r (m'+1)),add_neg,zero_add]
theorem Tn_succ_T (n:Nat)(u:R S.toDesc):Tn (n+1) u=T (Tn n u):=by
 first
 | rfl
 | exact Tn_T n u
theorem phi_Tn (hc:nsm S.p (1:R F.toDesc)=0){r:R F.toDesc} (h0:muV S F r=0)(u:R S.toDesc):∀ n,phi S F r (Tn n u)=pw r n*phi S F r u
 | 0=>by rw[pw_zero,one_mul]; rfl
 | n+1=>by rw[Tn_succ_T,phi_T hc,h0,mul_zero,sub_zero,phi_Tn hc h0 u n,pw_succ',mul_a]
theorem phi_add (hc:nsm S.p (1:R F.toDesc)=0)(r:R F.toDesc)(u w:R S.toDesc):phi S F r (u+w)=phi S F r u+phi S F r w:=by
 unfold phi;rw[←rsum_add];exact rsum_congr fun i _=>by rw[add_v,kz_add hc,add_mul]
theorem phi_mul (hc:nsm S.p (1:R F.toDesc)=0){r:R F.toDesc} (h0:muV S F r=0)(u w:R S.toDesc):phi S F r (u*w)=phi S F r u*phi S F r w:=by
 have h1:phi S F r (u*w)=rsum S.m fun j=>rsum S.m fun i=>kz F (u.v i)*(kz F ((Tn i w).v j)*pw r j):=by
  unfold phi;refine rsum_congr fun j hj=>?_
  rw[mul_v u w hj,kz_rsum hc,←rsum_mul_right];exact rsum_congr fun i _=>by rw[kz_mul hc,mul_a]
 rw[h1,rsum_swap];have h2:∀ i,(rsum S.m fun j=>kz F (u.v i)*(kz F ((Tn i w).v j)*pw r j))=kz F (u.v i)*pw r i*phi S F r w:=fun i=>by
  rw[rsum_mul_left,mul_a,←phi_Tn hc h0 w i]; rfl
 rw[rsum_congr fun i _=>h2 i,rsum_mul_right];rfl
theorem phi_one (r:R F.toDesc):phi S F r 1=1:=by
 have h1:=S.m1;unfold phi;rw[rsum_single (k:=0) (by omega) fun i hi hne=>by rw[one_v hi,if_neg hne,kz_zero,zero_mul],one_v (by omega),if_pos rfl,kz_one S.p2,pw_zero,one_mul]
theorem phi_zero (r:R F.toDesc):phi S F r 0=0:=by
 unfold phi;exact rsum_eq_zero fun i _=>by rw[zero_v,kz_zero,zero_mul]
theorem phi_pw (hc:nsm S.p (1:R F.toDesc)=0){r:R F.toDesc} (h0:muV S F r=0)(u:R S.toDesc):∀ n,phi S F r (pw u n)=pw (phi S F r u) n
 | 0=>phi_one r
 | n+1=>by rw[pw_succ,phi_mul hc h0,phi_pw hc h0 u n,pw_succ]
theorem phi_inj (hc:nsm S.p (1:R F.toDesc)=0){r:R F.toDesc} (h0:muV S F r=0){u w:R S.toDesc} (h:phi S F r u=phi S F r w):u=w:=by
 refine Classical.byContradiction fun hne=>?_
 obtain⟨y,hy⟩:=S.inv_ex (u+-w) (fun e=>hne (by rw[show u=u+-w+w from by rw[add_a,neg_add,add_zero],e,zero_add]));have h2:phi S F r (u+-w)=0:=by
  have h3:=phi_add hc r (u+-w) w;rw[add_a,neg_add,add_zero,h]at h3;exact (add_right_cancel (show 0+phi S F r w=phi S F r (u+-w)+phi S F r w from by rw[zero_add]; exact h3)).symm
 have h4:=phi_mul hc h0 (u+-w) y;rw[hy,phi_one,h2,zero_mul]at h4;exact one_ne h4
theorem phi_sub (hp:S.p=F.p)(hc:nsm S.p (1:R F.toDesc)=0){r:R F.toDesc} (h0:muV S F r=0)(u:R S.toDesc):InSub S.m (phi S F r u):=by
 show pw (phi S F r u) (F.p ^ S.m)=phi S F r u
 rw[←hp,←phi_pw hc h0]
 congr 1
 exact pw_q (F:=R S.toDesc) u

def glE (S F:FD):Nat→List (R F.toDesc)
 | 0=>[]
 | n+1=>kz F ((Tn n (1:R S.toDesc)).v (S.m - 1)) :: glE S F n
theorem glE_length (n:Nat):(glE S F n).length=n:=by
 induction n with
 | zero=>rfl
 | succ n ih=>show (glE S F n).length+1=_; rw[ih]
theorem phi_gl (hc:nsm S.p (1:R F.toDesc)=0)(x:R F.toDesc):∀ n,phi S F x (Tn n 1)=pw x n - muV S F x*pev (glE S F n) x
 | 0=>by
  show phi S F x 1=1 - muV S F x*0
  rw[phi_one,mul_zero,sub_zero]
 | n+1=>by
  rw[Tn_succ_T,phi_T hc,phi_gl hc x n,pw_succ']
  show _=x*pw x n - muV S F x*(kz F ((Tn n (1:R S.toDesc)).v (S.m - 1))+x*pev (glE S F n) x)
  rw[mul_sub,mul_add,mul_c (muV S F x) (kz F _),mul_lc (muV S F x) x];simp only[sub_d,neg_add_d]
  ac_rfl
theorem Tn_pw (n:Nat):Tn n (1:R S.toDesc)=pw (T 1) n:=by
 induction n with
 | zero=>rfl
 | succ n ih=>rw[Tn_succ_T,T_eq,ih,pw_succ]
theorem glE_get (n i:Nat)(h:i<n):(glE S F n)[i]?=some (kz F ((Tn (n - 1 - i) (1:R S.toDesc)).v (S.m - 1))):=by
 induction n generalizing i with
 | zero=>omega
 | succ n ih =>
  cases i with
  | zero=>rfl
  | succ i =>
   show (glE S F n)[i]?=_
   rw[ih i (by omega),show n+1 - 1 - (i+1)=n - 1 - i by omega]
theorem root_ex (hp:S.p=F.p)(hc:nsm S.p (1:R F.toDesc)=0)(hd:S.m∣F.m):∃ x:R F.toDesc,muV S F x=0:=by
 refine Classical.byContradiction fun hno=>?_
 have hm1:=S.m1;have hq:2≤S.q:=S.toDesc.q2;have hqd:S.m<S.q:=by
  have h2:=S.p2;have h3:∀ m,m<2 ^ m:=fun m=>Nat.lt_two_pow_self
  have h4:2 ^ S.m≤S.p ^ S.m:=Nat.pow_le_pow_left h2 _;exact Nat.lt_of_lt_of_le (h3 S.m) h4
 have hT:Tn S.q (1:R S.toDesc)=Tn 1 1:=by rw[Tn_pw,Tn_pw,pw_one]; exact pw_q (F:=R S.toDesc) _
 have hcnt:=sub_count (F:=R F.toDesc) (d:=S.m) hd hm1;obtain⟨q',hq'⟩:∃ q',S.q=q'+1:=⟨S.q - 1,by omega⟩;have hfix:∀ x:R F.toDesc,frob S.m x=x→pw x S.q=x:=fun x hx=>by
  have h1:pw x (F.p ^ S.m)=x:=hx;rw[←hp]at h1;exact h1
 have key:=pev_roots (((List.range (FF.q (R F.toDesc))).filter fun n=>decide (frob S.m (FF.el n:R F.toDesc)=FF.el n)).map fun n=>(FF.el n:R F.toDesc))
  ((kz F ((Tn q' (1:R S.toDesc)).v (S.m - 1))+-(kz F ((1:R S.toDesc).v (S.m - 1)))) :: glE S F q') ?_ ?_ ?_
 ·have h1:=key _ (List.mem_cons_of_mem _ (List.mem_of_getElem? (glE_get (S:=S) (F:=F) q' (q' - S.m) (by omega))));rw[show q' - 1 - (q' - S.m)=S.m - 1 by omega,show (1:R S.toDesc)=basis S.toDesc 0 from rfl,Tn_basis (by omega),basis_v (by omega),if_pos rfl,kz_one S.p2]at h1;exact one_ne h1
 ·rw[List.length_cons,glE_length,List.length_map,hcnt]
  show q'+1≤F.p ^ S.m
  rw[←hp,←hq'];exact Nat.le_refl _
 ·refine List.pairwise_map.2 (List.Pairwise.imp_of_mem ?_ (List.Pairwise.filter _ (List.nodup_range (n:=FF.q (R F.toDesc)))));intro x y hx hy hne e;have hx':=List.mem_range.1 (List.mem_filter.1 hx).1;have hy':=List.mem_range.1 (List.mem_filter.1 hy).1;have h3:=congrArg FF.code e;rw[FF.code_el x hx',FF.code_el y hy']at h3;exact hne h3
 ·intro x hx;obtain⟨n,hn,rfl⟩:=List.mem_map.1 hx;have hfx:=hfix _ (of_decide_eq_true (List.mem_filter.1 hn).2);generalize (FF.el n:R F.toDesc)=x at *;have h1:=phi_gl (S:=S) hc x S.q;have h2:=phi_gl (S:=S) hc x 1;rw[hT,h2,hfx,pw_one]at h1;have h3:muV S F x*pev (glE S F S.q) x=muV S F x*pev (glE S F 1) x:=by
   have h4:=h1;rw[sub_d,sub_d]at h4;have h5:=add_left_cancel h4;rw[←neg_neg (muV S F x*pev (glE S F S.q) x),←h5,neg_neg]
  have h6:=mul_left_cancel (fun e=>hno ⟨x,e⟩) h3;rw[hq']at h6
  show kz F ((Tn q' (1:R S.toDesc)).v (S.m - 1))+-(kz F ((1:R S.toDesc).v (S.m - 1)))+x*pev (glE S F q') x=0
  have h7:kz F ((Tn q' (1:R S.toDesc)).v (S.m - 1))+x*pev (glE S F q') x=kz F ((1:R S.toDesc).v (S.m - 1))+x*0:=h6;rw[mul_zero,add_zero]at h7;have h8:∀ a b X:R F.toDesc,a+b+X=(a+X)+b:=fun a b X=>by ac_rfl
  rw[h8,h7,add_neg]
end
end Cw

namespace Go.Proofs.YtogfekjbpcfgmaaGreat
section
open Go.RowKit Cw

set_option maxHeartbeats 1000000 in
theorem Eval5_any (D:Desc)(l:List Int)(x:Int)(A A1:Option Addr)(c c1:Nat)(w:World)(hr:Rd w w.heap.size A (modL D))(hr1:Rd w w.heap.size A1 l)(hl:l.length≤maxLen) :
  Calls Tryz.prog 72 #[.agg #[.int .i64 D.p,.int .i64 D.m,.slice A D.mod.length c],.slice A1 l.length c1,.int .i64 x] w fun e w'=>e=.returned (.int .i64 (ci (pevI D l (eli D x))))∧Below w.heap.size w w':=by
 unfold maxLen at hl;have hM:=fun y z W hr=>Lib.hid (Mul_any D y z A c W hr)
 have hA:=fun y z W=>Lib.hid (Add_any D y z A D.mod.length c W)
 have hbx0:=Bx.new w D A D.mod.length c 24;have hB0:Below w.heap.size w (w.alloc (.cells #[.int .i64 D.p,.int .i64 D.m,.slice A D.mod.length c] 24)):=(Below.refl _ _).alloc (Nat.le_refl _) _;obtain⟨u,hu⟩:∃ u,u=eli D x:=⟨_,rfl⟩;rw[←hu];replace hu:=Lib.hid hu;go_enter Tryz.func72,Tryz.ntmps72;go_wp2_with (fail);go_loopw [9,7,8] (fun i o p wr=>∃ k:Nat,k≤l.length∧i=.int .i64 k∧o=.int .i64 (ci (rsum k fun i=>eli D (l[i]?.getD 0)*pw u i))∧p=.int .i64 (ci (pw u k))∧Bx wr w.heap.size D A D.mod.length c∧Below w.heap.size w wr∧w.heap.size<wr.heap.size) (fun i _ _ _=>l.length - (intOf i).toNat)
 case atStart=>exact⟨0,by omega,rfl,by rw[rsum_zero,ci_zero],by rw[pw_zero,ci_one],hbx0,hB0,by simp⟩
 case round =>
  obtain⟨k,hk,rfl,rfl,rfl,hbx,hbw,hsz⟩:=hrel;by_cases hlt:k<l.length
  ·have hk0:(0:Int)≤(k:Int):=by omega
   have hk1:(k:Int)<(l.length:Int):=by omega
   obtain⟨b,o,rfl,hb,hc⟩:=hr1.at_ hlt;have hc2:=(hbw.cell (p:=⟨b,o+k,none⟩) hb).trans hc;obtain⟨y,hy⟩:∃ y,y=l[k]?.getD 0:=⟨_,rfl⟩;rw[←hy]at hc2;have hM2:=fun W hr=>(hM y (ci (pw u k)) W hr).out
   rw[eli_ci]at hM2;replace hM2:=fun W hr=>Lib.hid (hM2 W hr)
   have hA2:=fun W=>(hA (ci (rsum k fun i=>eli D (l[i]?.getD 0)*pw u i)) (ci (eli D y*pw u k)) W).out
   have hs:rsum k (fun i=>eli D (l[i]?.getD 0)*pw u i)+eli D y*pw u k=rsum (k+1) (fun i=>eli D (l[i]?.getD 0)*pw u i):=by rw[rsum_succ,hy]
   rw[eli_ci,eli_ci,hs]at hA2;replace hA2:=fun W=>Lib.hid (hA2 W)
   have hM3:=fun W hr=>(hM (ci (pw u k)) x W hr).out
   rw[eli_ci,←hu.out,←pw_succ]at hM3;replace hM3:=fun W hr=>Lib.hid (hM3 W hr)
   have hrr:=(hr.below hbw).more hbw.size;have hbo:b<wr.heap.size:=Nat.lt_of_lt_of_le hb hbw.size;have hcc:Hid (_∧_∧_∧wr.cell? ⟨b,o+k,none⟩=_):=Lib.hid (show _∧_∧_∧_ from ⟨hbx.cells.1,hbx.cells.2.1,hbx.cells.2.2,hc2⟩);have hk4:∀ {W w1:World} {v0 v1 v2 v3:Value},Below W.heap.size W w1→w.heap.size<W.heap.size→b<W.heap.size→(W.cell? ⟨w.heap.size,0,none⟩=some v0∧W.cell? ⟨w.heap.size,1,none⟩=some v1∧W.cell? ⟨w.heap.size,2,none⟩=some v2∧W.cell? ⟨b,o+k,none⟩=some v3) →
     w1.cell? ⟨w.heap.size,0,none⟩=some v0∧w1.cell? ⟨w.heap.size,1,none⟩=some v1∧w1.cell? ⟨w.heap.size,2,none⟩=some v2∧w1.cell? ⟨b,o+k,none⟩=some v3:=fun h1 h2 h3 h4 =>
    have:=keep3 h1 h2 ⟨h4.1,h4.2.1,h4.2.2.1⟩
    ⟨this.1,this.2.1,this.2.2,(h1.cell (p:=⟨b,o+k,none⟩) h3).trans h4.2.2.2⟩
   replace hk4:=fun {W w1:World} {v0 v1 v2 v3:Value} a1 a2 a3 a4=>Lib.hid (@hk4 W w1 v0 v1 v2 v3 a1 a2 a3 a4)
   clear hc hs hy hbx hc2;go_wp2_with (fail);go_region_held3 (fun w'=>w'.cell? ⟨w.heap.size,0,none⟩=some (.int .i64 D.p)∧w'.cell? ⟨w.heap.size,1,none⟩=some (.int .i64 D.m)∧w'.cell? ⟨w.heap.size,2,none⟩=some (.slice A D.mod.length c)∧w'.cell? ⟨b,o+k,none⟩=some (.int .i64 y)) (first | exact hcc.out | exact hcc1.out | exact hcc2.out)
    (first
     | (go_at_call 57; (with_reducible refine (hM2 _ hrr.drew).out.mono ?_); rintro e w1 ⟨rfl,hb1⟩; have hcc1:=hk4 hb1 hsz hbo hcc.out; have hs1:wr.heap.size≤w1.heap.size:=hb1.size; have hbw1:=(hbw.drew).trans (hb1.mono hbw.size))
     | (go_at_call 118; (with_reducible refine (hA2 _).out.mono ?_); rintro e w2 ⟨rfl,hb2⟩; have hcc2:=hk4 hb2 (Nat.lt_of_lt_of_le hsz hs1) (Nat.lt_of_lt_of_le hbo hs1) hcc1.out; have hbw2:=hbw1.trans (hb2.mono hbw1.size)))
   have hs2:w.heap.size<w2.heap.size:=Nat.lt_of_lt_of_le (Nat.lt_of_lt_of_le hsz hs1) hb2.size;have hbx2:Bx w2 w.heap.size D A D.mod.length c:=⟨hcc2.out.1,hcc2.out.2.1,hcc2.out.2.2.1⟩;have hrr2:=(hr.below hbw2).more hbw2.size;obtain⟨q0,q1,q2⟩:=hbx2.cells;go_wp2_with (fail);(with_reducible refine (hM3 _ hrr2).out.mono ?_);rintro e w3 ⟨rfl,hb3⟩;clear q0 q1 q2;go_wp2_with (fail);go_roundw
   case rel=>exact⟨k+1,by omega,by go_num,rfl,rfl,hbx2.below hb3 hs2,hbw2.trans (hb3.mono hbw2.size),Nat.lt_of_lt_of_le hs2 hb3.size⟩
   case measure=>simp[intOf]; omega
  ·obtain rfl:k=l.length:=by omega
   go_wp2_with (fail);go_ret;exact⟨rfl,hbw⟩
end
section
open Go.RowKit Cw

def cfR (D:Desc)(p:List Int):Nat→R D:=fun i=>eli D (p[i]?.getD 0)
def cfI (D:Desc)(p:List Int):Nat→Int:=fun i=>ci (cfR D p i)
theorem cfR_out (D:Desc){p:List Int} {i:Nat} (h:p.length≤i):cfR D p i=0:=by
 unfold cfR; rw[List.getElem?_eq_none h]; exact eli_zero
theorem cfR_can {D:Desc} (f:Nat→R D)(n:Nat)(h:∀ i,n≤i→f i=0):cfR D (canL (fun i=>ci (f i)) n)=f:=funext fun i=>by
 unfold cfR;by_cases hi:i<n
 ·rw[canL_get _ hi,eli_ci]
 ·rw[canL_out _ (by omega),h i (by omega)]; exact eli_zero
def canI (D:Desc)(p:List Int):List Int:=canL (cfI D p) p.length
theorem canI_le (D:Desc)(p:List Int):(canI D p).length≤p.length:=by unfold canI; rw[canL_length]; exact cdeg_le _ _
theorem cfR_canI (D:Desc)(p:List Int):cfR D (canI D p)=cfR D p:=cfR_can (cfR D p) p.length fun _ h=>cfR_out D h
end
section
open Go.RowKit Cw

theorem eli_sm (F:FD){n:Nat} (h:n<F.p):eli F.toDesc (n:Int)=nsm n (1:R F.toDesc):=by
 have hq:n<F.q:=by
  have h1:=Nat.pow_le_pow_right (n:=F.p) (by have:=F.p2; omega) F.m1;rw[Nat.pow_one]at h1;exact Nat.lt_of_lt_of_le h h1
 rw[eli_nat hq];refine R.ext' fun i hi=>?_
 rw[rel_v hi,nsm_v,one_v hi];by_cases e:i=0
 ·rw[if_pos e,e,Nat.pow_zero,Nat.div_one,zp_nsm]
 ·rw[if_neg e,nsm_mul,mul_zero,Nat.div_eq_of_lt (Nat.lt_of_lt_of_le h (by
   have h1:=Nat.pow_le_pow_right (n:=F.p) (by have:=F.p2; omega) (by omega:1≤i)
   rwa [Nat.pow_one]at h1)),zp_zero]
theorem kz_di (S F:FD)(hp:S.p=F.p)(u:R S.toDesc)(i:Nat):eli F.toDesc (di u i:Nat)=kz F (u.v i):=by
 rw[eli_sm F (by rw[←hp]; exact di_lt u i)]; rfl
theorem dl_length {D:Desc} (u:R D):(dl u).length=D.m:=lst_length _ _
theorem kz_dl (S F:FD)(hp:S.p=F.p)(u:R S.toDesc){i:Nat} (hi:i<S.m):eli F.toDesc ((dl u)[i]?.getD 0)=kz F (u.v i):=by
 unfold dl; rw[lst_get _ hi,kz_di S F hp]
theorem pevI_dl (S F:FD)(hp:S.p=F.p)(u:R S.toDesc)(r:R F.toDesc):pevI F.toDesc (dl u) r=phi S F r u:=by
 unfold pevI phi;rw[dl_length];exact rsum_congr fun i hi=>by rw[kz_dl S F hp u hi]
theorem kz_mod (S F:FD)(hp:S.p=F.p)(j:Nat):eli F.toDesc ((S.mod.getD j 0:Nat):Int)=kz F (S.c j):=by
 have h:=S.hmod j;rw[eli_sm F (by rw[←hp]; exact h)];unfold kz Desc.c;rw[zp_val,Nat.mod_eq_of_lt h]
def monL (S:FD):List Int:=modL S.toDesc ++ [1]
theorem monL_length (S:FD)(hm:S.m≠1):(monL S).length=S.m+1:=by
 unfold monL;rw[List.length_append,modL_length,S.hlen,if_neg hm]; rfl
theorem monL_low (S:FD)(hm:S.m≠1){i:Nat} (hi:i<S.m):(monL S)[i]?.getD 0=((S.mod.getD i 0:Nat):Int):=by
 have hl:S.mod.length=S.m:=by rw[S.hlen,if_neg hm]
 unfold monL;rw[List.getElem?_append_left (by rw[modL_length]; omega),modL_get _ (by omega)]
theorem monL_top (S:FD)(hm:S.m≠1):(monL S)[S.m]?.getD 0=1:=by
 have hl:S.mod.length=S.m:=by rw[S.hlen,if_neg hm]
 unfold monL;rw[List.getElem?_append_right (by rw[modL_length]; omega),modL_length,hl,Nat.sub_self]; rfl
theorem pevI_mon (S F:FD)(hp:S.p=F.p)(hm:S.m≠1)(r:R F.toDesc):pevI F.toDesc (monL S) r=muV S F r:=by
 unfold pevI muV;rw[monL_length S hm,rsum_succ,monL_top S hm,eli_one,one_mul,add_c]
 congr 1
 exact rsum_congr fun i hi=>by rw[monL_low S hm hi,kz_mod S F hp]
theorem rsum_more {K:Type} [CRing K] {n m:Nat} (h:n≤m)(f:Nat→K)(hz:∀ i,n≤i→i<m→f i=0):rsum m f=rsum n f:=by
 obtain⟨d,rfl⟩:∃ d,m=n+d:=⟨m - n,by omega⟩;rw[rsum_split,rsum_eq_zero (n:=d) fun i hi=>hz (n+i) (by omega) (by omega),add_zero]
theorem pevI_canI (D:FD)(p:List Int)(u:R D.toDesc):pevI D.toDesc (canI D.toDesc p) u=pevI D.toDesc p u:=by
 show rsum _ (fun i=>cfR D.toDesc (canI D.toDesc p) i*pw u i)=rsum _ (fun i=>cfR D.toDesc p i*pw u i)
 rw[cfR_canI,rsum_more (canI_le D.toDesc p) _ fun i h1 _=>by
  have h2:cfR D.toDesc (canI D.toDesc p) i=0:=cfR_out D.toDesc h1;rw[cfR_canI]at h2;rw[h2,zero_mul]]
theorem canI_mon (S F:FD)(hm:S.m≠1):canI F.toDesc (monL S)≠[]:=by
 intro h;have h1:cfR F.toDesc (canI F.toDesc (monL S)) S.m=1:=by
  rw[cfR_canI]
  show eli F.toDesc ((monL S)[S.m]?.getD 0)=1
  rw[monL_top S hm,eli_one]
 rw[h]at h1;have h2:cfR F.toDesc [] S.m=0:=cfR_out F.toDesc (Nat.zero_le _);rw[h2]at h1;exact one_ne h1.symm
def IsRt (S F:FD)(n:Nat):Prop:=n<F.q∧muV S F (rel F.toDesc n)=0∧∀ j,j<n→muV S F (rel F.toDesc j)≠0
theorem isRt_ex {S F:FD} (hp:S.p=F.p)(hd:S.m∣F.m):∃ n,IsRt S F n:=by
 have hc:nsm S.p (1:R F.toDesc)=0:=by rw[hp]; exact char_R
 obtain⟨x,hx⟩:=root_ex hp hc hd;have h:∀ n,n≤rcode x→(∃ n,IsRt S F n)∨∀ j,j<n→muV S F (rel F.toDesc j)≠0:=fun n=>by
  induction n with
  | zero=>exact fun _=>.inr fun j hj=>absurd hj (by omega)
  | succ n ih =>
   intro hn;rcases ih (by omega) with h1 | h1
   ·exact .inl h1
   ·by_cases e:muV S F (rel F.toDesc n)=0
    ·exact .inl ⟨n,by have:=rcode_lt x; omega,e,h1⟩
    ·refine .inr fun j hj=>?_
     rcases (by omega:j<n∨j=n) with h2 | rfl
     ·exact h1 j h2
     ·exact e
 rcases h (rcode x) (Nat.le_refl _) with h1 | h1
 ·exact h1
 ·exact⟨rcode x,rcode_lt x,by rw[rel_rcode]; exact hx,h1⟩
theorem IsRt.uniq {S F:FD} {n m:Nat} (h1:IsRt S F n)(h2:IsRt S F m):n=m:=by
 rcases Nat.lt_trichotomy n m with h | h | h
 ·exact absurd h1.2.1 (h2.2.2 n h)
 ·exact h
 ·exact absurd h2.2.1 (h1.2.2 m h)
theorem isRt_one {S F:FD} (hm:S.m=1):IsRt S F 0:=by
 refine⟨by have:=F.toDesc.q2; omega,?_,fun j hj=>absurd hj (by omega)⟩;have h0:S.c 0=0:=by
  unfold Desc.c;rw[show S.mod.getD 0 0=0 from by
   have h1:S.mod=[]:=List.eq_nil_of_length_eq_zero (by rw[S.hlen,if_pos hm]);rw[h1]; rfl]
  exact zp_zero
 rw[rel_zero];unfold muV;rw[hm,pw_one,rsum_succ,rsum_zero,h0,kz_zero];simp only[zero_mul,add_zero]
noncomputable def embL (S F:FD)(n:Nat):List Int:=lst S.q fun x=>ci (phi S F (rel F.toDesc n) (rel S.toDesc x))
theorem embL_length (S F:FD)(n:Nat):(embL S F n).length=S.q:=lst_length _ _
theorem embL_get (S F:FD)(n:Nat){x:Nat} (h:x<S.q):(embL S F n)[x]?.getD 0=ci (phi S F (rel F.toDesc n) (rel S.toDesc x)):=lst_get _ h
noncomputable def rootF (D:FD)(p:List Int)(pre:List Int):List Int:=pre.filter fun x=>decide (pevI D.toDesc p (eli D.toDesc x)=0)
theorem rootF_hit (D:FD)(p pre:List Int){x:Int} (h:pevI D.toDesc p (eli D.toDesc x)=0):rootF D p (pre ++ [x])=rootF D p pre ++ [x]:=by simp[rootF,h]
theorem rootF_miss (D:FD)(p pre:List Int){x:Int} (h:¬ pevI D.toDesc p (eli D.toDesc x)=0):rootF D p (pre ++ [x])=rootF D p pre:=by simp[rootF,h]
theorem rootF_none (D:FD)(p:List Int){n:Nat} (hn:n≤D.q)(h:∀ j,j<n→pevI D.toDesc p (rel D.toDesc j)≠0):rootF D p (lst n fun i=>(i:Int))=[]:=by
 refine List.filter_eq_nil_iff.2 fun x hx=>?_
 obtain⟨k,hk,rfl⟩:=List.mem_map.1 hx;have hk2:=List.mem_range.1 hk;rw[eli_nat (by omega),decide_eq_true_eq];exact h k hk2
theorem rootF_head {S F:FD} (hp:S.p=F.p)(hm:S.m≠1){n:Nat} (h:IsRt S F n):∃ t,rootF F (canI F.toDesc (monL S)) (lst F.q fun i=>(i:Int))=(n:Int) :: t:=by
 have hv:∀ r,pevI F.toDesc (canI F.toDesc (monL S)) r=muV S F r:=fun r=>by rw[pevI_canI,pevI_mon S F hp hm]
 obtain⟨d,hd⟩:∃ d,F.q=n+1+d:=⟨F.q - n - 1,by have:=h.1; omega⟩;have h1:lst F.q (fun i=>(i:Int))=(lst n fun i=>(i:Int)) ++ ((n:Int) :: (List.range d).map fun i:Nat=>((n+1+i:Nat):Int)):=by
  rw[hd];unfold lst;rw[List.range_add,List.map_append,List.map_map,List.range_succ,List.map_append,List.append_assoc];rfl
 have h2:rootF F (canI F.toDesc (monL S)) (lst n fun i=>(i:Int))=[]:=rootF_none F _ (by have:=h.1; omega) fun j hj=>by rw[hv]; exact h.2.2 j hj
 rw[h1];unfold rootF at h2 ⊢;rw[List.filter_append,h2,List.nil_append,List.filter_cons_of_pos (by
  rw[eli_nat h.1,decide_eq_true_eq,hv]; exact h.2.1)]
 exact⟨_,rfl⟩
end
section
open Go.RowKit Cw
attribute [local go_sem] Oper.semAt_some

theorem wrap_pred {k k':Nat} (h:k=k'+1)(hk:k≤1000000):IntKind.i64.wrap ((k:Int) - 1)=(k':Int):=by
 rw[IntWalk.i64_in _ (by omega)]; omega
def GivesR (l:List Int)(w:World)(e:Ending)(w':World):Prop :=
 ∃ A c,e=.returned (.slice A l.length c)∧Rd w' w'.heap.size A l∧l.length≤c∧c≤maxLen∧(∀ a,A=some a→w.heap.size≤a.block)∧Below w.heap.size w w'
theorem Rd.lst_take {w:World} {B n N:Nat} {A:Option Addr} {f:Nat→Int} (h:Rd w B A (lst n f))(hN:N≤n):Rd w B A (lst N f):=fun hp=>by
 rw[lst_length]at hp;obtain⟨b,off,e,hb,hc⟩:=h (by rw[lst_length]; omega);refine⟨b,off,e,hb,fun j hj=>?_⟩;rw[lst_length]at hj;have:=hc j (by rw[lst_length]; omega);rw[lst_get _ (by omega)]at this;rw[lst_get _ hj]; exact this

set_option maxHeartbeats 1000000 in
theorem gTrim_any (n:Nat)(f:Nat→Int)(A:Option Addr)(c:Nat)(w:World)(hr:Rd w w.heap.size A (lst n f))(hn:n≤1000000)(hc:n≤c)(_hc':c≤maxLen) :
  Calls Tryz.prog 184 #[.slice A n c] w fun e w'=>e=.returned (.slice A (cdeg f n) c)∧w=w':=by
 go_enter Tryz.func184,Tryz.ntmps184;go_wp2_with (fail);go_loop [0] (fun v=>∃ k:Nat,k≤n∧v=.slice A k c∧Hid (cdeg f n=cdeg f k)) (fun v=>lenV v)
 case atStart=>exact⟨n,Nat.le_refl _,rfl,rfl⟩
 case round =>
  obtain⟨k,hk,rfl,hd⟩:=hrel;rcases Nat.eq_zero_or_pos k with h0 | hpos
  ·subst h0;go_wp2_with (fail);go_ret;exact⟨by rw[hd.out]; rfl,rfl⟩
  ·obtain⟨k',hk'⟩:∃ k',k=k'+1:=⟨k - 1,by omega⟩;have hwr:=wrap_pred hk' (by omega);obtain⟨b,o,rfl,-,hcell⟩:=hr.at_ (by rw[lst_length]; omega:k'<(lst n f).length);rw[lst_get _ (by omega)]at hcell;have hk0:(0:Int)<(k:Int):=by omega
   have hj0:(0:Int)≤(k':Int):=by omega
   have hj1:(k':Int)<(k:Int):=by omega
   have hj2:(k':Int)≤(c:Int):=by omega
   obtain⟨y,hy⟩:∃ y,y=f k':=⟨_,rfl⟩;rw[←hy]at hcell;by_cases hz:y=0
   ·have hzb:(y==0)=true:=by rw[beq_iff_eq]; exact hz
    have hd2:Hid (cdeg f n=cdeg f k'):=by unfold Hid; rw[hd.out,hk',cdeg_yes (by rw[←hy]; exact hz)]
    replace hk':=Lib.hid hk';clear hz hy hd;go_wp2_with (fail);go_round
    case rel=>exact⟨k',by have:=hk'.out; omega,rfl,hd2⟩
    case measure=>simp[lenV]; have:=hk'.out; omega
   ·have hzb:(y==0)=false:=by rw[beq_eq_false_iff_ne]; exact hz
    have hd2:Hid (cdeg f n=k):=by unfold Hid; rw[hd.out,hk',cdeg_no (by rw[←hy]; exact hz)]
    replace hk':=Lib.hid hk';clear hz hy hd;go_wp2_with (fail);go_ret;exact⟨by rw[hd2.out]; rfl,rfl⟩

set_option maxHeartbeats 2000000 in
theorem gCanonP_box (F:FD)(p:List Int)(A1:Option Addr)(c1 g:Nat)(w:World)(hg:GF w w.heap.size g F)(hr1:Rd w w.heap.size A1 p)(hl:p.length≤70000) :
  Calls Tryz.prog 181 #[.pointer (some ⟨g,0,none⟩),.slice A1 p.length c1] w fun e w'=>∃ gb,e=.returned (.slice (some ⟨gb,0,none⟩) (canI F.toDesc p).length p.length)∧w.heap.size≤gb∧IB w' gb (lst p.length (cfI F.toDesc p))∧Below w.heap.size w w':=by
 obtain⟨n,hn⟩:∃ n,n=p.length:=⟨_,rfl⟩;have hmk:=mk_ints n (by omega);obtain⟨f,hf⟩:∃ f,f=cfI F.toDesc p:=⟨_,rfl⟩;have hfk:∀ k,f k=if decide (0≤p[k]?.getD 0∧p[k]?.getD 0<(F.q:Int))=true then p[k]?.getD 0 else 0:=fun k=>by
  rw[hf];unfold cfI cfR;by_cases h:0≤p[k]?.getD 0∧p[k]?.getD 0<(F.q:Int)
  ·rw[if_pos (decide_eq_true h)]; exact ci_eli_in h
  ·rw[if_neg (by rw[decide_eq_false h]; decide)];unfold eli;rw[if_neg h]; exact ci_zero
 have hcan:Hid (canI F.toDesc p=lst (cdeg f n) f):=by rw[hf,hn]; rfl
 have hT:=fun A c W a b d=>Lib.hid (gTrim_any n f A c W a (by omega) b d)
 obtain⟨gb,hgb⟩:∃ gb,gb=w.heap.size:=⟨_,rfl⟩;obtain⟨Y,hY⟩:∃ Y,Y=w.alloc (.cells (Array.replicate n (Value.int .i64 0)) 3):=⟨_,rfl⟩;have hib:IB Y gb (upd n 0 f):=by rw[upd_zero,hY,hgb]; exact IB.newz w n
 have hbY:Below w.heap.size w Y:=by rw[hY]; exact (Below.refl _ _).alloc (Nat.le_refl _) _
 have hgw:w.heap.size≤gb:=Nat.le_of_eq hgb.symm;have hgw2:gb≤w.heap.size:=Nat.le_of_eq hgb;have hnp:=Lib.hid hn;have hn7:n≤70000:=by omega
 rw[←hn];replace hY:=Lib.hid hY;replace hgb:=Lib.hid hgb;replace hf:=Lib.hid hf;clear hn;go_enter Tryz.func181,Tryz.ntmps181;go_wp2_with (fail);rw[←hY.out,←hgb.out];go_loopw [13] (fun i wr=>∃ k:Nat,k≤n∧i=.int .i64 k∧IB wr gb (upd n k f)∧Below w.heap.size w wr) (fun i _=>n - (intOf i).toNat)
 case atStart=>exact⟨0,by omega,rfl,hib,hbY⟩
 case round =>
  obtain⟨k,hk,rfl,hibk,hbw⟩:=hrel;obtain⟨w3,rfl⟩:∃ w3:World,w3=wr:=⟨_,rfl⟩;clear hib hbY;by_cases hlt:k<n
  ·have hk0:(0:Int)≤(k:Int):=by omega
   have hk1:(k:Int)<(n:Int):=by omega
   obtain⟨b,o,rfl,hb,hc⟩:=hr1.at_ (by rw[←hnp.out]; exact hlt:k<p.length);have hd:=(hbw.cell (p:=⟨b,o+k,none⟩) hb).trans hc;obtain⟨y,hy⟩:∃ y,y=p[k]?.getD 0:=⟨_,rfl⟩;have hfy:=hfk k;rw[←hy]at hd hfy;have hI:=gIs_any F y g w3 ((hg.below hbw).more hbw.size);have hkk:k<(upd n k f).length:=by rw[upd_length]; exact hlt
   have hcW:=hibk.cell hkk;have hfW:=hibk.frozen k;have hset:=hibk.set_ k (f k);rw[upd_set]at hset;have hbs:Below w.heap.size w (w3.setCell ⟨gb,k,none⟩ (.int .i64 (f k))):=hbw.setCell (p:=⟨gb,k,none⟩) hgw _;have hz0:f k=0→IB w3 gb (upd n (k+1) f):=fun e=>by
    have h:=upd_set n k f;have h2:(upd n k f).set k (f k)=upd n k f:=by
     rw[e];apply List.ext_getElem
     ·simp
     ·intro i h3 h4;rw[List.getElem_set];by_cases e2:k=i
      ·rw[if_pos e2];have h5:=upd_get (n:=n) (k:=k) (i:=i) f (by simpa [upd_length] using h4);rw[if_neg (by omega),List.getElem?_eq_getElem h4,Option.getD_some]at h5;exact h5.symm
      ·rw[if_neg e2]
    rw[←h,h2]; exact hibk
   replace hy:=Lib.hid hy
   cases hde:decide (0≤y∧y<(F.q:Int)) with
   | true =>
    rw[hde]at hI hfy;rw[if_pos rfl]at hfy;rw[hfy]at hset hbs;replace hI:=Lib.hid hI;replace hset:=Lib.hid hset;clear hc hde hfy hz0 hkk;go_wp2_with (fail);(with_reducible refine hI.out.mono ?_);rintro e w4 ⟨rfl,rfl⟩;go_wp2_with (fail);go_roundw
    case rel=>exact⟨k+1,by omega,by go_num,hset.out,hbs⟩
    case measure=>simp[intOf]; omega
   | false =>
    rw[hde]at hI hfy;rw[if_neg (by decide)]at hfy;have hib2:=Lib.hid (hz0 hfy);replace hI:=Lib.hid hI;clear hc hde hfy hz0 hkk hset hbs hcW hfW;go_wp2_with (fail);(with_reducible refine hI.out.mono ?_);rintro e w4 ⟨rfl,rfl⟩;go_wp2_with (fail);go_roundw
    case rel=>exact⟨k+1,by omega,by go_num,hib2.out,hbw⟩
    case measure=>simp[intOf]; omega
  ·obtain rfl:k=n:=by omega
   rw[upd_full]at hibk;have hT3:=hT (some ⟨gb,0,none⟩) k w3 hibk.rd (Nat.le_refl _) (by unfold maxLen; omega);have hle:=cdeg_le f k;go_wp2_with (fail);(with_reducible refine hT3.out.mono ?_);rintro e w4 ⟨rfl,rfl⟩;go_wp2_with (fail);go_ret;exact⟨gb,by rw[hcan.out,lst_length]; rfl,hgw,by rw[←hf.out]; exact hibk,hbw⟩
theorem gCanonP_any (F:FD)(p:List Int)(A1:Option Addr)(c1 g:Nat)(w:World)(hg:GF w w.heap.size g F)(hr1:Rd w w.heap.size A1 p)(hl:p.length≤70000) :
  Calls Tryz.prog 181 #[.pointer (some ⟨g,0,none⟩),.slice A1 p.length c1] w (GivesR (canI F.toDesc p) w) :=
 (gCanonP_box F p A1 c1 g w hg hr1 hl).mono fun e w' ⟨gb,he,h1,h2,h3⟩=>by
  have hle:=canI_le F.toDesc p;have hc:canI F.toDesc p=lst (canI F.toDesc p).length (cfI F.toDesc p):=by unfold canI; rw[canL_length]; rfl
  refine⟨some ⟨gb,0,none⟩,p.length,he,?_,hle,by unfold maxLen; omega,fun a e=>by cases e; exact h1,h3⟩;rw[hc]; exact h2.rd.lst_take hle
end
end Go.Proofs.YtogfekjbpcfgmaaGreat
