/- Plain: least weights of direct sums, of words (u, u + v), of products and of interleaved codes. No Go here. Plain: the words of a code by their index; the least weight as the reference finds it; ranks of combined rows. No Go here. Distance of any code: its number, and what it says if it is at least 1; results as codes without an error. Numbers of words and distances of results of chapter 14. CombineDistances: what the functions answer, with no program in sight. -/
import Derived.IntWalk
import Derived.Test.YtogfekjbpcfgmaaGreatZtXDsS
import Derived.Test.YtogfekjbpcfgmaaGreatZtXCodN
namespace Cw
theorem cn_congr {P Q:Nat→Bool}:∀ n,(∀ j,j<n→P j=Q j)→cn P n=cn Q n
 | 0,_=>rfl
 | n+1,h=>by rw[cn_succ,cn_succ,cn_congr n fun j hj=>h j (Nat.lt_succ_of_lt hj),h n (Nat.lt_succ_self n)]
theorem cn_split (P:Nat→Bool)(a:Nat):∀ b,cn P (a+b)=cn P a+cn (fun j=>P (a+j)) b
 | 0=>by rw[Nat.add_zero]; rfl
 | b+1=>by rw[←Nat.add_assoc,cn_succ,cn_succ,cn_split P a b,Nat.add_assoc]
theorem cn_pos {P:Nat→Bool} {j:Nat}:∀ {n},j<n→P j=true→1≤cn P n
 | 0,h,_=>absurd h (Nat.not_lt_zero _)
 | n+1,h,hp=>by
  rw[cn_succ];by_cases e:j=n
  ·rw[←e,if_pos hp]; omega
  ·have:=cn_pos (n:=n) (by omega) hp; omega
theorem cn_zero {P:Nat→Bool}:∀ n,(∀ j,j<n→P j=false)→cn P n=0
 | 0,_=>rfl
 | n+1,h=>by rw[cn_succ,cn_zero n fun j hj=>h j (Nat.lt_succ_of_lt hj),h n (Nat.lt_succ_self n)]; rfl
open Go.Proofs.YtogfekjbpcfgmaaGreat (joinF)
open Go.Proofs.YtogfekjbpcfgmaaGreat (stackR sumR ploR)
section pl
variable {F:Type} [CField F]
theorem joinF_lo {X:Type} {n j:Nat} {u v:Nat→X} (h:j<n):joinF n u v j=u j:=if_pos h
theorem joinF_ge {X:Type} {n j:Nat} {u v:Nat→X} (h:¬ j<n):joinF n u v j=v (j - n):=if_neg h
theorem joinF_hi {X:Type} {n j:Nat} {u v:Nat→X}:joinF n u v (n+j)=v j:=by rw[joinF_ge (by omega),Nat.add_sub_cancel_left]
def NZ (m:Nat)(u:Nat→F):Prop:=∃ j,j<m∧u j≠0
theorem not_NZ {m:Nat} {u:Nat→F} (h:¬ NZ m u):∀ j,j<m→u j=0:=fun j hj=>Classical.byContradiction fun c=>h ⟨j,hj,c⟩
theorem span_joinL {K n m:Nat} {A:Nat→Nat→F} {u:Nat→F}:Span K (n+m) (fun i=>joinF n (A i) fun _=>0) u↔Span K n A u∧∀ j,j<m→u (n+j)=0:=by
 constructor
 ·rintro⟨c,hc⟩;refine⟨⟨c,fun j hj=>?_⟩,fun j hj=>?_⟩
  ·rw[hc j (by omega)]; exact rsum_congr fun i _=>by (try dsimp only); rw[joinF_lo hj]
  ·rw[hc (n+j) (by omega)]; exact rsum_eq_zero fun i _=>by (try dsimp only); rw[joinF_hi,mul_zero]
 ·rintro⟨⟨c,hc⟩,h0⟩;refine⟨c,fun j hj=>?_⟩;by_cases h:j<n
  ·rw[hc j h]; exact rsum_congr fun i _=>by (try dsimp only); rw[joinF_lo h]
  ·have:=h0 (j - n) (by omega);rw[Nat.add_sub_cancel' (by omega)]at this;rw[this,rsum_eq_zero fun i _=>by (try dsimp only); rw[joinF_ge h,mul_zero]]
theorem join_self {X:Type} {n m:Nat} (u:Nat→X):∀ j,j<n+m→u j=joinF n u (fun j=>u (n+j)) j:=fun j _=>by
 by_cases h:j<n
 ·rw[joinF_lo h]
 ·rw[joinF_ge h]
  show u j=u (n+(j - n))
  rw[Nat.add_sub_cancel' (by omega)]
end pl
section wt
variable {F:Type} [CField F] [DecidableEq F]
def wtF (m:Nat)(u:Nat→F):Nat:=cn (fun j=>decide (u j≠0)) m
theorem wtF_congr {m:Nat} {u v:Nat→F} (h:∀ j,j<m→u j=v j):wtF m u=wtF m v:=cn_congr m fun j hj=>by rw[h j hj]
theorem wtF_pos {m:Nat} {u:Nat→F} (h:NZ m u):1≤wtF m u:=by
 obtain⟨j,hj,hu⟩:=h;exact cn_pos hj (decide_eq_true hu)
theorem wtF_zero {m:Nat} {u:Nat→F} (h:∀ j,j<m→u j=0):wtF m u=0:=cn_zero m fun j hj=>decide_eq_false fun c=>c (h j hj)
theorem wtF_NZ {m:Nat} {u:Nat→F} (h:1≤wtF m u):NZ m u:=Classical.byContradiction fun c=>by rw[wtF_zero (not_NZ c)]at h; omega
theorem wtF_join (n m:Nat)(u v:Nat→F):wtF (n+m) (joinF n u v)=wtF n u+wtF m v:=by
 unfold wtF;rw[cn_split]
 congr 1
 ·exact cn_congr n fun j hj=>by (try dsimp only); rw[joinF_lo hj]
 ·exact cn_congr m fun j _=>by (try dsimp only); rw[joinF_hi]
def Low (n m:Nat)(M:Nat→Nat→F)(d:Nat):Prop:=∀ u,Span n m M u→NZ m u→d≤wtF m u
def Att (n m:Nat)(M:Nat→Nat→F)(d:Nat):Prop:=∃ u,Span n m M u∧NZ m u∧wtF m u=d
theorem wtF_parts (n m:Nat)(u:Nat→F):wtF (n+m) u=wtF n u+wtF m (fun j=>u (n+j)):=by
 rw[←wtF_join];exact wtF_congr (join_self u)
end wt
end Cw

namespace Go.Proofs.YtogfekjbpcfgmaaGreat
section
open Go.RowKit Cw

section rank
variable {F:Type} [CField F]
theorem RR.congr {m r:Nat} {p:Nat→Nat} {A B:Nat→Nat→F} (h:RR m r p A)(e:∀ i,i<r→∀ j,j<m→A i j=B i j):RR m r p B where
 lt:=h.lt
 mono:=h.mono
 one:=fun i hi=>by rw[←e i hi _ (h.lt i hi)]; exact h.one i hi
 zero:=fun i j hi hj hne=>by rw[←e i hi _ (h.lt j hj)]; exact h.zero i j hi hj hne
 low:=fun i hi j hj=>by rw[←e i hi j (Nat.lt_trans hj (h.lt i hi))]; exact h.low i hi j hj
theorem RR.indep {m r:Nat} {p:Nat→Nat} {A:Nat→Nat→F} (h:RR m r p A):Indep r m A:=fun c hc i hi=>by
 have:=h.coef (v:=fun _=>0) (c:=c) (fun j hj=>(hc j hj).symm) hi;exact this.symm
end rank

theorem canl_RR {F:FD} {n m:Nat} {M:Nat→Nat→R F.toDesc} (h:Canl F n m M):∃ p,RR m n p M:=by
 have h1:=elS_RR n m M;have hk:(elS n M m).2.length=n:=h.1;rw[hk]at h1;exact⟨_,RR.congr h1 fun i hi j hj=>rowL_inj (D:=F.toDesc) (h.2 i hi) hj⟩
def dgv (q:Nat)(f:Nat→Nat):Nat→Nat
 | 0=>0
 | d+1=>dgv q f d+f d*q ^ d
theorem dgv_spec {q:Nat} (hq:2≤q){f:Nat→Nat}:∀ d,(∀ i,i<d→f i<q)→dgv q f d<q ^ d∧∀ i,i<d→dgv q f d / q ^ i % q=f i
 | 0,_=>⟨by show 0<q ^ 0; rw[Nat.pow_zero]; omega,fun i hi=>absurd hi (Nat.not_lt_zero _)⟩
 | d+1,h=>by
  obtain⟨h1,h2⟩:=dgv_spec hq d fun i hi=>h i (Nat.lt_succ_of_lt hi)
  have hd:=h d (Nat.lt_succ_self d);have hp:0<q ^ d:=Nat.pow_pos (by omega);refine⟨?_,fun i hi=>?_⟩
  ·show dgv q f d+f d*q ^ d<q ^ (d+1)
   have:f d*q ^ d+q ^ d≤q*q ^ d:=by rw[←Nat.succ_mul]; exact Nat.mul_le_mul_right _ hd
   rw[Nat.pow_succ,Nat.mul_comm (q ^ d) q];omega
  ·show (dgv q f d+f d*q ^ d) / q ^ i % q=f i
   by_cases e:i=d
   ·subst e;rw[Nat.add_mul_div_right _ _ hp,Nat.div_eq_of_lt h1,Nat.zero_add,Nat.mod_eq_of_lt hd]
   ·have hi2:i<d:=by omega
    have e2:f d*q ^ d=(f d*q ^ (d - i - 1)*q)*q ^ i:=by
     rw[Nat.mul_assoc,Nat.mul_assoc,←Nat.pow_succ',←Nat.pow_add]
     congr 2
     omega
    rw[e2,Nat.add_mul_div_right _ _ (Nat.pow_pos (by omega)),Nat.add_mul_mod_self_right];exact h2 i hi2
theorem digits_zero {q:Nat} (hq:2≤q):∀ n v,v<q ^ n→(∀ i,i<n→v / q ^ i % q=0)→v=0
 | 0,v,h,_=>by rw[Nat.pow_zero]at h; omega
 | n+1,v,h,h0=>by
  have h1:=h0 0 (by omega);rw[Nat.pow_zero,Nat.div_one]at h1;have h2:=digits_zero hq n (v / q) (by rw[Nat.div_lt_iff_lt_mul (by omega),←Nat.pow_succ]; exact h) fun i hi=>by
   have:=h0 (i+1) (by omega)
   rwa [Nat.pow_succ',←Nat.div_div_eq_div_mul]at this
  have:=Nat.div_add_mod v q;rw[h1,h2]at this;omega
section words
variable {F:FD} {n m:Nat} {M:Nat→Nat→R F.toDesc}
theorem atF_all (g:Nat→R F.toDesc):∃ v,v<F.q ^ n∧∀ j,atF n M v j=cmb n g M j:=by
 have hq:=F.q2;obtain⟨h1,h2⟩:=dgv_spec (q:=F.q) hq (f:=fun t=>rcode (g (n - 1 - t))) n fun i _=>rcode_lt _
 refine⟨_,h1,fun j=>?_⟩;unfold atF cmb;refine rsum_congr fun p hp=>?_
 congr 1
 unfold msgF;dsimp only;rw[h2 (n - 1 - p) (by omega),show n - 1 - (n - 1 - p)=p by omega];exact eli_ci _
theorem atF_span (v:Nat):Span n m M (atF n M v):=⟨_,fun _ _=>rfl⟩
theorem atF_NZ (hc:Canl F n m M){v:Nat} (h1:1≤v)(h2:v<F.q ^ n):NZ m (atF n M v):=Classical.byContradiction fun hn=>by
 have hq:=F.q2;obtain⟨p,hR⟩:=canl_RR hc;have h3:=RR.indep hR _ (not_NZ hn);have h4:v=0:=digits_zero (q:=F.q) hq n v h2 fun i hi=>by
  have h5:=h3 (n - 1 - i) (by omega)
  (try dsimp only at h5)
  have hlt:msgF F.q n v (n - 1 - i)<F.q:=Nat.mod_lt _ (by omega);have h6:=ci_eli_in (D:=F.toDesc) (x:=(msgF F.q n v (n - 1 - i):Nat)) ⟨by omega,by omega⟩;rw[h5,ci_zero]at h6;have h7:msgF F.q n v (n - 1 - i)=0:=by omega
  unfold msgF at h7
  rwa [show n - 1 - (n - 1 - i)=i by omega]at h7
 omega
theorem wtI_row (u:Nat→R F.toDesc):wtI (rowL F.toDesc m u)=wtF m u:=by
 unfold wtI wtF;rw[rowL_length];have:∀ k,k≤m→wtN (rowL F.toDesc m u) k=cn (fun j=>decide (u j≠0)) k:=fun k=>by
  induction k with
  | zero=>intro _; rfl
  | succ k ih =>
   intro hk;rw[cn_succ,←ih (by omega)]
   show wtN (rowL F.toDesc m u) k+(if (rowL F.toDesc m u)[k]?.getD 0=0 then 0 else 1)=_
   rw[rowL_get F.toDesc u (show k<m by omega)]
   congr 1
   by_cases e:u k=0
   ·rw[if_pos (by rw[e,ci_zero]),if_neg (by simp[e])]
   ·rw[if_neg (fun c=>e (by rw[←eli_ci (u k),c,eli_zero])),if_pos (by simp[e])]
 exact this m (Nat.le_refl _)
theorem dmin_spec {f:Nat→Nat}:∀ N,(∀ i,1≤i→i≤N→1≤f i)→1≤N→(∀ i,1≤i→i≤N→dmin f N≤f i)∧∃ i,1≤i∧i≤N∧f i=dmin f N
  | 0,_,h=>absurd h (by omega)
  | N+1,h,_=>by
    have hd:dmin f (N+1)=if dmin f N=0∨f (N+1)<dmin f N then f (N+1) else dmin f N:=rfl
    by_cases hN:N=0
    · subst hN;rw[hd,if_pos (.inl rfl)]
      exact ⟨fun i h1 h2 => by obtain rfl : i = 1 := by omega
                               exact Nat.le_refl _,1,by omega,by omega,rfl⟩
    · obtain⟨h1,i0,h2,h3,h4⟩:=dmin_spec N (fun i a b=>h i a (by omega)) (by omega);have h5:=h i0 h2 (by omega);rw[hd];by_cases hc:dmin f N=0∨f (N+1)<dmin f N
      · rw[if_pos hc];refine⟨fun i a b=>?_,N+1,by omega,by omega,rfl⟩;by_cases e:i=N+1
        · rw[e]; exact Nat.le_refl _
        · have:=h1 i a (by omega); omega
      · rw[if_neg hc];refine⟨fun i a b=>?_,i0,h2,by omega,h4⟩;by_cases e:i=N+1
        · rw[e]; omega
        · exact h1 i a (by omega)
theorem dist_spec (hc:Canl F n m M)(hn:1≤n):Low n m M (dmin (wtAt n m M) (F.q ^ n - 1))∧Att n m M (dmin (wtAt n m M) (F.q ^ n - 1))∧1≤dmin (wtAt n m M) (F.q ^ n - 1):=by
 have hq:=F.q2;have hqn:2≤F.q ^ n:=Nat.le_trans hq (Nat.le_self_pow (by omega) _);have hw:∀ v,wtAt n m M v=wtF m (atF n M v):=fun v=>wtI_row _
 obtain⟨h1,i0,h2,h3,h4⟩:=dmin_spec (f:=wtAt n m M) (F.q ^ n - 1) (fun i a b=>by rw[hw]; exact wtF_pos (atF_NZ hc a (by omega))) (by omega);refine⟨fun u hu hz=>?_,⟨atF n M i0,atF_span _,atF_NZ hc h2 (by omega),by rw[←hw]; exact h4⟩,?_⟩
 ·obtain⟨g,hg⟩:=hu;obtain⟨v,hv,he⟩:=atF_all (n:=n) (M:=M) g;have hag:∀ j,j<m→u j=atF n M v j:=fun j hj=>by rw[hg j hj,he j]; rfl
  have hv1:1≤v:=Nat.one_le_iff_ne_zero.2 fun h0=>by
   obtain⟨j,hj,hne⟩:=hz;refine hne ?_;rw[hag j hj,h0];unfold atF cmb;exact rsum_eq_zero fun p _=>by
    unfold msgF;dsimp only;rw[Nat.zero_div,Nat.zero_mod];rw[show ((0:Nat):Int)=0 from rfl,eli_zero,zero_mul]
  have:=h1 v hv1 (by omega)
  rwa [hw,←wtF_congr hag]at this
 ·rw[←h4,hw];exact wtF_pos (atF_NZ hc h2 (by omega))
theorem dist_zero (h:n=0):dmin (wtAt n m M) (F.q ^ n - 1)=0:=by
 subst h;rw[Nat.pow_zero];rfl
theorem ofF_span (msg:List Int):Span n m M (ofF n M msg):=⟨_,fun _ _=>rfl⟩
end words
end
section
open Go.RowKit Cw

theorem dist_any (Pa Ma Na:Int)(mla:List Int)(na:Nat)(rowsa:Nat→List Int)(Aa Ra:Option Addr)(ca ka:Nat)(most:Int)(hPa:I64 Pa)(hMa:I64 Ma)(hla:mla.length≤maxLen)(hna:na≤64)(hka:∀ i,i<na→(rowsa i).length≤4200)(hmo:I64 most) :
  ∃ V:Int,(-1≤V∧V≤64)∧(∀ W,Pre1 mla na rowsa Aa Ra W→Calls Tryz.prog 12 #[.agg #[.int .i64 Pa,.int .i64 Ma,.slice Aa mla.length ca,.int .i64 Na,.slice Ra na ka],.int .i64 most] W fun e w'=>e=.returned (.int .i64 V)∧Below W.heap.size W w') ∧
   (V≠-1→∃ F:FD,∃ m:Nat,∃ M:Nat→Nat→R F.toDesc,VC Pa Ma Na mla na rowsa F m M∧((F.q ^ na:Nat):Int)≤most∧F.q ^ na≤65536∧(1≤V↔1≤na)∧(1≤V→Low na m M V.toNat∧Att na m M V.toNat)):=by
 by_cases h0:cnV (cErr Pa Ma Na mla na rowsa) (qOf Pa Ma) na most=0
 ·exact⟨-1,⟨by omega,by omega⟩,fun W h=>Dist_no Pa Ma Na mla na rowsa Aa Ra ca ka most W hPa hMa hla hna hka h.1 h.2 hmo h0,fun h=>absurd rfl h⟩
 ·obtain⟨hE,h6,hm,hv⟩:=cnV_pos h0;obtain⟨F,m,M,va⟩:=cErr_zero hE;have hqq:qOf Pa Ma=F.q:=by rw[va.hP,va.hM]; exact qOf_D F.toDesc
  rw[hqq]at h6 hm hv;have hm64:=va.m64;have hle:=dmin_le (f:=wtAt na m M) (B:=64) (fun i=>Nat.le_trans (wtAt_le na m M i) hm64) (F.q ^ na - 1);refine⟨(dmin (wtAt na m M) (F.q ^ na - 1):Nat),⟨by omega,by omega⟩,fun W h=>Dist_ok Pa Ma Na mla na rowsa Aa Ra ca ka most W hPa hMa hla hna hka h.1 h.2 hmo va (F.q ^ na) rfl (by rw[hqq]; exact hv) h6,fun _=>⟨F,m,M,va,hm,h6,?_,fun h1=>?_⟩⟩
  ·constructor
   ·intro h1;rcases Nat.eq_zero_or_pos na with hz | hz
    ·rw[dist_zero hz]at h1; omega
    ·exact hz
   ·intro h1;have:=(dist_spec va.can h1).2.2;omega
  ·have hna1:1≤na:=by
    rcases Nat.eq_zero_or_pos na with hz | hz
    ·rw[dist_zero hz]at h1; omega
    ·exact hz
   obtain⟨h2,h3,-⟩:=dist_spec va.can hna1;rw[Int.toNat_natCast];exact⟨h2,h3⟩
theorem vc_res (F:FD)(hgood:Good F.p F.m (modL F.toDesc))(n m:Nat)(M:Nat→Nat→R F.toDesc)(h1:1≤m)(h2:m≤64):VC F.p F.m m (modL F.toDesc) (rkS F n m M) (rowsL F.toDesc m (elS n M m).1) F m (elS n M m).1 :=
 ⟨rfl,rfl,rfl,hgood,rfl,h1,h2,fun _ _=>rfl,canl_elS F n m M⟩
theorem rk_full {F:FD} {n m:Nat} {M:Nat→Nat→R F.toDesc} (h:Indep n m M):rkS F n m M=n:=elS_rank h
end
section
open Go.RowKit Cw

theorem vc_err {P M N:Int} {ml:List Int} {n:Nat} {rows:Nat→List Int} {F:FD} {m:Nat} {A:Nat→Nat→R F.toDesc} (va:VC P M N ml n rows F m A):cErr P M N ml n rows=0:=by
 have h1:=va.m1; have h2:=va.m64; have h5:=va.le; have eN:=va.hN;have hs0:ShpOk N n rows:=⟨by omega,by omega,by omega,fun i hi=>by rw[va.hr i hi,rowsL_length,eN]⟩;exact cErr_ok (D:=F.toDesc) (by rw[va.hP,va.hM,va.hl]; exact va.good) va.hP va.hM va.hl (by omega) hs0 (fun i hi=>by rw[va.hr i hi]; exact elB_rowL _ _ _) ⟨F,m,A,va.hP,va.hM,va.hl,va.hN,va.hr,va.can⟩
theorem dist_vc (Pa Ma Na:Int)(mla:List Int)(na:Nat)(rowsa:Nat→List Int)(Aa Ra:Option Addr)(ca ka:Nat)(most:Int)(hPa:I64 Pa)(hMa:I64 Ma)(hla:mla.length≤maxLen)(hna:na≤64)(hka:∀ i,i<na→(rowsa i).length≤4200)(hmo:I64 most){F:FD} {m:Nat} {M:Nat→Nat→R F.toDesc} (va:VC Pa Ma Na mla na rowsa F m M) :
  ∃ V:Int,(-1≤V∧V≤64)∧(∀ W,Pre1 mla na rowsa Aa Ra W→Calls Tryz.prog 12 #[.agg #[.int .i64 Pa,.int .i64 Ma,.slice Aa mla.length ca,.int .i64 Na,.slice Ra na ka],.int .i64 most] W fun e w'=>e=.returned (.int .i64 V)∧Below W.heap.size W w') ∧
   (1≤V→((F.q ^ na:Nat):Int)≤most∧1≤na∧Low na m M V.toNat∧Att na m M V.toNat):=by
 by_cases h0:cnV (cErr Pa Ma Na mla na rowsa) (qOf Pa Ma) na most=0
 ·exact⟨-1,⟨by omega,by omega⟩,fun W h=>Dist_no Pa Ma Na mla na rowsa Aa Ra ca ka most W hPa hMa hla hna hka h.1 h.2 hmo h0,fun h=>by omega⟩
 ·obtain⟨hE,h6,hm,hv⟩:=cnV_pos h0;have hqq:qOf Pa Ma=F.q:=by rw[va.hP,va.hM]; exact qOf_D F.toDesc
  rw[hqq]at h6 hm hv;have hm64:=va.m64;have hle:=dmin_le (f:=wtAt na m M) (B:=64) (fun i=>Nat.le_trans (wtAt_le na m M i) hm64) (F.q ^ na - 1);refine⟨(dmin (wtAt na m M) (F.q ^ na - 1):Nat),⟨by omega,by omega⟩,fun W h=>Dist_ok Pa Ma Na mla na rowsa Aa Ra ca ka most W hPa hMa hla hna hka h.1 h.2 hmo va (F.q ^ na) rfl (by rw[hqq]; exact hv) h6,fun h1=>?_⟩;have hna1:1≤na:=by
   rcases Nat.eq_zero_or_pos na with hz | hz
   ·rw[dist_zero hz]at h1; omega
   ·exact hz
  obtain⟨h2,h3,-⟩:=dist_spec va.can hna1;rw[Int.toNat_natCast];exact⟨hm,hna1,h2,h3⟩
section res
variable {F:FD} {n m:Nat} {M:Nat→Nat→R F.toDesc}
theorem fd_len (F:FD):(modL F.toDesc).length≤maxLen:=by have:=F.hlen; have:=F.m8; rw[modL_length,F.hlen]; unfold maxLen; split <;> omega
theorem fd_i64 (F:FD):I64 F.p∧I64 F.m:=by
 have h1:=F.m8;have h2:F.p≤256:=Nat.le_trans (Nat.le_self_pow (by have:=F.m1; omega) _) F.q256;constructor <;> constructor <;> omega
end res
end
section
open Go.RowKit Cw

end
end Go.Proofs.YtogfekjbpcfgmaaGreat
