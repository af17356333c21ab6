/- Concatenated codes: the messages that belong to the elements of the great field. No Go here. What Concatenate of two codes hands back. The weights of concatenated codes. No Go here. -/
import Derived.Test.YtogfekjbpcfgmaaGreatZtCConE
import Derived.Test.YtogfekjbpcfgmaaGreatZtCDsS
import Derived.Test.YtogfekjbpcfgmaaGreatZtCDsM
import Derived.Test.YtogfekjbpcfgmaaGreatZtCBasX
import Derived.Test.YtogfekjbpcfgmaaGreatZtCAltF
namespace Cw
def dgN (q v k:Nat):Nat:=v / q ^ k % q
theorem dgN_zero (q v:Nat):dgN q v 0=v % q:=by unfold dgN; rw[Nat.pow_zero,Nat.div_one]
theorem dgN_succ (q v k:Nat):dgN q v (k+1)=dgN q (v / q) k:=by unfold dgN; rw[Nat.div_div_eq_div_mul,Nat.pow_succ,Nat.mul_comm (q ^ k)]
theorem dgN_inj {q:Nat} (hq:0<q):∀ n v v',v<q ^ n→v'<q ^ n→(∀ k,k<n→dgN q v k=dgN q v' k)→v=v'
 | 0,v,v',h,h',_=>by rw[Nat.pow_zero]at h h'; omega
 | n+1,v,v',h,h',e=>by
  have e0:=e 0 (Nat.succ_pos _);rw[dgN_zero,dgN_zero]at e0;have hd:∀ v,v<q ^ (n+1)→v / q<q ^ n:=fun v h=>Nat.div_lt_of_lt_mul (by rwa [Nat.pow_succ,Nat.mul_comm]at h)
  have e1:=dgN_inj hq n (v / q) (v' / q) (hd v h) (hd v' h') fun k hk=>by rw[←dgN_succ,←dgN_succ]; exact e (k+1) (by omega)
  rw[←Nat.div_add_mod v q,←Nat.div_add_mod v' q,e0,e1]
end Cw
namespace Go.Proofs.YtogfekjbpcfgmaaGreat
section
open Go.RowKit Cw

section
variable {S F:FD} {r:R F.toDesc} {n:Nat} {b:Nat→R F.toDesc}
noncomputable def cmS (S F:FD)(r:R F.toDesc)(n:Nat)(b:Nat→R F.toDesc)(s:Nat→R S.toDesc):R F.toDesc:=rsum n fun j=>phi S F r (s j)*b j
theorem cmS_inj (hp:S.p=F.p)(h0:muV S F r=0)(hI:IndS S.m n b){s s':Nat→R S.toDesc} (h:cmS S F r n b s=cmS S F r n b s'):∀ j,j<n→s j=s' j:=fun j hj=>by
 have hc:=char_two (S:=S) (F:=F) hp;refine phi_inj hc h0 (sub_eq_zero (hI (fun j=>phi S F r (s j) - phi S F r (s' j)) (fun j _=>(phi_sub hp hc h0 _).sub (phi_sub hp hc h0 _)) ?_ j hj));rw[rsum_congr (g:=fun j=>phi S F r (s j)*b j - phi S F r (s' j)*b j) fun j _=>sub_mul _ _ _,rsum_sub];unfold cmS at h;rw[h,sub_self]
noncomputable def elV (S F:FD)(r:R F.toDesc)(n:Nat)(b:Nat→R F.toDesc)(v:Nat):R F.toDesc:=cmS S F r n b fun k=>rel S.toDesc (dgN S.q v k)
theorem elV_inj (hp:S.p=F.p)(h0:muV S F r=0)(hI:IndS S.m n b){v v':Nat} (hv:v<S.q ^ n)(hv':v'<S.q ^ n)(h:elV S F r n b v=elV S F r n b v'):v=v':=by
 have hq:0<S.q:=by have:=S.toDesc.q2; omega
 refine dgN_inj hq n v v' hv hv' fun k hk=>?_
 have h1:=cmS_inj hp h0 hI h k hk;have h2:=congrArg rcode h1
 rwa [rcode_rel (show dgN S.q v k<S.toDesc.q from Nat.mod_lt _ hq),rcode_rel (show dgN S.q v' k<S.toDesc.q from Nat.mod_lt _ hq)]at h2
theorem q_two (hp:S.p=F.p)(hn:S.m*n=F.m):S.q ^ n=F.q:=by
 show (S.p ^ S.m) ^ n=F.p ^ F.m
 rw[←Nat.pow_mul,hn,hp]
theorem elV_all (hp:S.p=F.p)(h0:muV S F r=0)(hI:IndS S.m n b)(hn:S.m*n=F.m)(x:R F.toDesc):∃ v,v<F.q∧elV S F r n b v=x:=by
 have hq:=q_two hp hn;obtain⟨v,hv,e⟩:=inj_all (f:=fun v=>rcode (elV S F r n b v)) (q:=F.q) (fun i _=>rcode_lt _) (fun i j hi hj e=>elV_inj hp h0 hI (by rw[hq]; exact hi) (by rw[hq]; exact hj) (rcode_inj e)) (x:=rcode x) (rcode_lt x);exact⟨v,hv,rcode_inj e⟩
open Classical in
noncomputable def msgS (S F:FD)(r:R F.toDesc)(n:Nat)(b:Nat→R F.toDesc)(x:R F.toDesc):Nat→R S.toDesc:=if h:∃ s,cmS S F r n b s=x then Classical.choose h else fun _=>0
theorem msgS_eq (hp:S.p=F.p)(h0:muV S F r=0)(hI:IndS S.m n b)(s:Nat→R S.toDesc):∀ j,j<n→msgS S F r n b (cmS S F r n b s) j=s j:=by
 have h:∃ s',cmS S F r n b s'=cmS S F r n b s:=⟨s,rfl⟩;unfold msgS;rw[dif_pos h];exact cmS_inj hp h0 hI (Classical.choose_spec h)
theorem msgS_sum (hp:S.p=F.p)(h0:muV S F r=0)(hI:IndS S.m n b)(hn:S.m*n=F.m)(x:R F.toDesc):cmS S F r n b (msgS S F r n b x)=x:=by
 obtain⟨v,-,e⟩:=elV_all hp h0 hI hn x;have h:∃ s,cmS S F r n b s=x:=⟨_,e⟩;unfold msgS;rw[dif_pos h];exact Classical.choose_spec h
theorem msgS_co (hp:S.p=F.p)(h0:muV S F r=0)(hI:IndS S.m n b){c:Nat→R F.toDesc} {x:R F.toDesc} (hc:∀ j,j<n→InSub S.m (c j))(hx:rsum n (fun j=>c j*b j)=x):∀ j,j<n→msgS S F r n b x j=bk S F r (c j):=by
 have e:cmS S F r n b (fun j=>bk S F r (c j))=x:=by
  rw[←hx];exact rsum_congr fun j hj=>by rw[phi_bk hp h0 (hc j hj)]
 rw[←e];exact msgS_eq hp h0 hI _
open Classical in
noncomputable def tabV (S F:FD)(r:R F.toDesc)(n:Nat)(b:Nat→R F.toDesc)(v:Nat):Nat→List Int:=fun x=>if ∃ v',v'<v∧rcode (elV S F r n b v')=x then rowL S.toDesc n (msgS S F r n b (rel F.toDesc x)) else []
theorem tabV_zero (x:Nat):tabV S F r n b 0 x=[]:=if_neg fun⟨_,h,_⟩=>absurd h (Nat.not_lt_zero _)
theorem tabV_full (hp:S.p=F.p)(h0:muV S F r=0)(hI:IndS S.m n b)(hn:S.m*n=F.m){x:Nat} (hx:x<F.q):tabV S F r n b F.q x=rowL S.toDesc n (msgS S F r n b (rel F.toDesc x)):=by
 obtain⟨v,hv,e⟩:=elV_all hp h0 hI hn (rel F.toDesc x);exact if_pos ⟨v,hv,by rw[e,rcode_rel hx]⟩
theorem tabV_step (hp:S.p=F.p)(h0:muV S F r=0)(hI:IndS S.m n b)(v i:Nat):(if i=rcode (elV S F r n b v) then rowL S.toDesc n (fun k=>rel S.toDesc (dgN S.q v k)) else tabV S F r n b v i)=tabV S F r n b (v+1) i:=by
 by_cases e:i=rcode (elV S F r n b v)
 ·rw[if_pos e];unfold tabV;rw[if_pos ⟨v,Nat.lt_succ_self v,e.symm⟩,e,rel_rcode];exact lst_congr fun j hj=>congrArg ci (msgS_eq hp h0 hI (fun k=>rel S.toDesc (dgN S.q v k)) j hj).symm
 ·rw[if_neg e];unfold tabV;by_cases h:∃ v',v'<v∧rcode (elV S F r n b v')=i
  ·obtain⟨v',h1,h2⟩:=h;rw[if_pos ⟨v',h1,h2⟩,if_pos ⟨v',Nat.lt_succ_of_lt h1,h2⟩]
  ·rw[if_neg h,if_neg fun⟨v',h1,h2⟩=>h ⟨v',by
    by_cases e2:v'=v
    ·subst e2; exact absurd h2.symm e
    ·omega,h2⟩]
noncomputable def wdS (S F:FD)(r:R F.toDesc)(n:Nat)(b:Nat→R F.toDesc)(M:Nat→Nat→R S.toDesc)(x:R F.toDesc):Nat→R S.toDesc:=cmb n (msgS S F r n b x) M
noncomputable def conR (S F:FD)(r:R F.toDesc)(n:Nat)(b:Nat→R F.toDesc)(m:Nat)(M:Nat→Nat→R S.toDesc)(U:Nat→Nat→R F.toDesc):Nat→Nat→R S.toDesc :=
 fun t c=>wdS S F r n b M (b (t % n)*U (t / n) (c / m)) (c % m)
end
end
section
open Go.RowKit Cw

def Mt (F S:FD)(nb:Nat):Prop:=S.p=F.p∧S.m∣F.m∧F.m / S.m=nb
open Classical in
noncomputable def ConPost (F S:FD)(nb m1 m2:Nat)(l:List Int)(R:World→Ending→World→Prop):World→Ending→World→Prop :=
 if ¬ Mt F S nb then ResErr 10 else if basE F l S.m≠0 then ResErr 9 else if 64<m1*m2 then ResErr 4 else R
section
variable {F S:FD} {nb m1 m2:Nat} {l:List Int} {R:World→Ending→World→Prop} {w w':World}
theorem conP_10 (h:¬ Mt F S nb)(hb:Below w.heap.size w w'):ConPost F S nb m1 m2 l R w (.returned (.tuple #[.agg #[.int .i64 0,.int .i64 0,.slice none 0 0,.int .i64 0,.slice none 0 0],.int .i64 10])) w':=by
 unfold ConPost; rw[if_pos h]; exact resErr hb
theorem conP_9 (h:Mt F S nb)(h2:basE F l S.m≠0)(hb:Below w.heap.size w w'):ConPost F S nb m1 m2 l R w (.returned (.tuple #[.agg #[.int .i64 0,.int .i64 0,.slice none 0 0,.int .i64 0,.slice none 0 0],.int .i64 9])) w':=by
 unfold ConPost; rw[if_neg (not_not_intro h),if_pos h2]; exact resErr hb
theorem conP_4 (h:Mt F S nb)(h2:basE F l S.m=0)(h3:64<m1*m2)(hb:Below w.heap.size w w'):ConPost F S nb m1 m2 l R w (.returned (.tuple #[.agg #[.int .i64 0,.int .i64 0,.slice none 0 0,.int .i64 0,.slice none 0 0],.int .i64 4])) w':=by
 unfold ConPost; rw[if_neg (not_not_intro h),if_neg (not_not_intro h2),if_pos h3]; exact resErr hb
theorem conP_ok (h:Mt F S nb)(h2:basE F l S.m=0)(h3:m1*m2≤64):ConPost F S nb m1 m2 l R=R:=by
 unfold ConPost; rw[if_neg (not_not_intro h),if_neg (not_not_intro h2),if_neg (by omega)]
end
theorem conR_at {F S:FD} {r:R F.toDesc} {nb m2 k j i c:Nat} {b:Nat→R F.toDesc} {M:Nat→Nat→R S.toDesc} {U:Nat→Nat→R F.toDesc} (hj:j<nb)(hc:c<m2):conR S F r nb b m2 M U (nb*k+j) (m2*i+c)=wdS S F r nb b M (b j*U k i) c:=by
 unfold conR;rw[(divmod_mul hj).1,(divmod_mul hj).2,(divmod_mul hc).1,(divmod_mul hc).2]
theorem basE_ind {F S:FD} {l:List Int} (hd:S.m∣F.m)(h:basE F l S.m=0):l.length=F.m / S.m∧IndS S.m (F.m / S.m) (elL F l):=by
 refine Classical.byContradiction fun hn=>?_
 rw[basE_bad (divB_of S.m1 hd F.m1) hn]at h
 cases h
theorem twoA (w:World)(o1 o2:Obj):Below w.heap.size w ((w.alloc o1).alloc o2):=((Below.refl _ _).alloc (Nat.le_refl _) _).alloc (by simp) _
theorem cmS_congr {S F:FD} {r:R F.toDesc} {n:Nat} {b b':Nat→R F.toDesc} (h:∀ j,j<n→b j=b' j):cmS S F r n b=cmS S F r n b':=funext fun s=>rsum_congr fun j hj=>by rw[h j hj]
theorem msgS_congr {S F:FD} {r:R F.toDesc} {n:Nat} {b b':Nat→R F.toDesc} (h:∀ j,j<n→b j=b' j):msgS S F r n b=msgS S F r n b':=by
 have e:=cmS_congr (S:=S) (r:=r) h;unfold msgS;rw[e]
theorem elL_row {F:FD} {n:Nat} (f:Nat→R F.toDesc){j:Nat} (hj:j<n):elL F (rowL F.toDesc n f) j=f j:=by
 unfold elL;rw[rowL_get F.toDesc f hj,eli_ci]
theorem indS_congr {F:FD} {d n:Nat} {b b':Nat→R F.toDesc} (h:∀ j,j<n→b j=b' j)(hI:IndS d n b):IndS d n b':=fun c hc h0=>hI c hc (by rw[←h0]; exact rsum_congr fun j hj=>by rw[h j hj])
end
section
open Go.RowKit Cw
section
variable {S F:FD} {r:R F.toDesc} {n:Nat} {b:Nat→R F.toDesc}
theorem phi_rs (hp:S.p=F.p)(k:Nat)(f:Nat→R S.toDesc):phi S F r (rsum k f)=rsum k fun i=>phi S F r (f i):=by
 have hc:=char_two (S:=S) (F:=F) hp
 induction k with
 | zero=>rw[rsum_zero,rsum_zero]; exact phi_zero r
 | succ k ih=>rw[rsum_succ,rsum_succ,phi_add hc,ih]
theorem msgS_lin (hp:S.p=F.p)(h0:muV S F r=0)(hI:IndS S.m n b)(hn:S.m*n=F.m)(K:Nat)(s:Nat→R S.toDesc)(x:Nat→R F.toDesc):∀ j,j<n→msgS S F r n b (rsum K fun t=>phi S F r (s t)*x t) j=rsum K fun t=>s t*msgS S F r n b (x t) j:=by
 have hc:=char_two (S:=S) (F:=F) hp;have e:cmS S F r n b (fun j=>rsum K fun t=>s t*msgS S F r n b (x t) j)=rsum K fun t=>phi S F r (s t)*x t:=by
  unfold cmS;rw[rsum_congr (g:=fun j=>rsum K fun t=>phi S F r (s t)*(phi S F r (msgS S F r n b (x t) j)*b j)) fun j _=>by
   rw[phi_rs hp,←rsum_mul_right];exact rsum_congr fun t _=>by rw[phi_mul hc h0,mul_a]]
  rw[rsum_swap];refine rsum_congr fun t _=>?_
  rw[rsum_mul_left];exact congrArg _ (msgS_sum hp h0 hI hn (x t))
 rw[←e];exact msgS_eq hp h0 hI _
theorem wdS_lin (hp:S.p=F.p)(h0:muV S F r=0)(hI:IndS S.m n b)(hn:S.m*n=F.m)(K:Nat)(s:Nat→R S.toDesc)(x:Nat→R F.toDesc)(M:Nat→Nat→R S.toDesc)(c:Nat):wdS S F r n b M (rsum K fun t=>phi S F r (s t)*x t) c=rsum K fun t=>s t*wdS S F r n b M (x t) c:=by
 show rsum n (fun i=>msgS S F r n b (rsum K fun t=>phi S F r (s t)*x t) i*M i c)=rsum K fun t=>s t*rsum n fun i=>msgS S F r n b (x t) i*M i c
 rw[rsum_congr (g:=fun i=>rsum K fun t=>s t*msgS S F r n b (x t) i*M i c) fun i hi=>by rw[msgS_lin hp h0 hI hn K s x i hi,rsum_mul_right]];rw[rsum_swap];refine rsum_congr fun t _=>?_
 rw[←rsum_mul_left];exact rsum_congr fun i _=>mul_a _ _ _
theorem con_cmb (hp:S.p=F.p)(h0:muV S F r=0)(hI:IndS S.m n b)(hn:S.m*n=F.m)(K m:Nat)(M:Nat→Nat→R S.toDesc)(U:Nat→Nat→R F.toDesc)(s:Nat→R S.toDesc){i c:Nat} (hc:c<m) :
  rsum (n*K) (fun t=>s t*conR S F r n b m M U t (m*i+c))=wdS S F r n b M (rsum K fun k=>cmS S F r n b (fun j=>s (n*k+j))*U k i) c:=by
 have e:rsum K (fun k=>cmS S F r n b (fun j=>s (n*k+j))*U k i)=rsum (n*K) fun t=>phi S F r (s t)*(b (t % n)*U (t / n) i):=by
  rw[rsum_mulk];refine rsum_congr fun k _=>?_
  unfold cmS;rw[←rsum_mul_right];exact rsum_congr fun j hj=>by rw[(divmod_mul hj).1,(divmod_mul hj).2,mul_a]
 rw[e,wdS_lin hp h0 hI hn];refine rsum_congr fun t _=>?_
 unfold conR;rw[(divmod_mul hc).1,(divmod_mul hc).2]
theorem wdS_zero (hp:S.p=F.p)(h0:muV S F r=0)(hI:IndS S.m n b)(hn:S.m*n=F.m){m:Nat} {M:Nat→Nat→R S.toDesc} (hM:Indep n m M){x:R F.toDesc} (h:∀ c,c<m→wdS S F r n b M x c=0):x=0:=by
 have h1:=hM (msgS S F r n b x) h;rw[←msgS_sum hp h0 hI hn x];unfold cmS;exact rsum_eq_zero fun j hj=>by rw[h1 j hj,phi_zero,zero_mul]
theorem con_indep (hp:S.p=F.p)(h0:muV S F r=0)(hI:IndS S.m n b)(hn:S.m*n=F.m){K m m1:Nat} {M:Nat→Nat→R S.toDesc} {U:Nat→Nat→R F.toDesc} (hU:Indep K m1 U)(hM:Indep n m M):Indep (n*K) (m1*m) (conR S F r n b m M U):=fun s hs t ht=>by
 have hv:∀ i,i<m1→rsum K (fun k=>cmS S F r n b (fun j=>s (n*k+j))*U k i)=0:=fun i hi=>wdS_zero hp h0 hI hn hM fun c hc=>by
  rw[←con_cmb hp h0 hI hn K m M U s hc];exact hs (m*i+c) (Nat.lt_of_lt_of_le (Nat.add_lt_add_left hc _) (by rw[←Nat.mul_succ,Nat.mul_comm m1]; exact Nat.mul_le_mul_left _ hi))
 have hn0:0<n:=Nat.pos_of_ne_zero fun e=>by rw[e,Nat.zero_mul]at ht; exact absurd ht (Nat.not_lt_zero _)
 have h2:=hU _ hv (t / n) (Nat.div_lt_of_lt_mul ht);have hz:cmS S F r n b (fun _=>0)=0:=by
  unfold cmS;exact rsum_eq_zero fun j _=>by rw[phi_zero,zero_mul]
 have h3:=cmS_inj hp h0 hI (s':=fun _=>0) (h2.trans hz.symm) (t % n) (Nat.mod_lt _ hn0);rw[Nat.div_add_mod]at h3;exact h3
theorem con_low (hp:S.p=F.p)(h0:muV S F r=0)(hI:IndS S.m n b)(hn:S.m*n=F.m){K m m1 d1 d2:Nat} {M:Nat→Nat→R S.toDesc} {U:Nat→Nat→R F.toDesc} (hM:Indep n m M)(hA:Low K m1 U d1)(hB:Low n m M d2):Low (n*K) (m1*m) (conR S F r n b m M U) (d1*d2):=fun u hu hz=>by
 obtain⟨s,hs⟩:=hu;obtain⟨v,hv⟩:∃ v:Nat→R F.toDesc,v=fun i=>rsum K fun k=>cmS S F r n b (fun j=>s (n*k+j))*U k i:=⟨_,rfl⟩
 have hlt:∀ {i c},i<m1→c<m→m*i+c<m1*m:=fun hi hc=>Nat.lt_of_lt_of_le (Nat.add_lt_add_left hc _) (by rw[←Nat.mul_succ,Nat.mul_comm m1]; exact Nat.mul_le_mul_left _ hi)
 have huv:∀ i,i<m1→∀ c,c<m→u (m*i+c)=wdS S F r n b M (v i) c:=fun i hi c hc=>by
  rw[hs _ (hlt hi hc),con_cmb hp h0 hI hn K m M U s hc,hv]
 have hvs:Span K m1 U v:=⟨fun k=>cmS S F r n b (fun j=>s (n*k+j)),fun i _=>by rw[hv]⟩;have hz0:∀ c,wdS S F r n b M 0 c=0:=fun c=>by
  have:=wdS_lin hp h0 hI hn 0 (fun _=>0) (fun _=>0) M c
  rwa [rsum_zero,rsum_zero]at this
 have hvn:NZ m1 v:=Classical.byContradiction fun hn0=>by
  obtain⟨j,hj,hj0⟩:=hz;have hm0:0<m:=Nat.pos_of_ne_zero fun e=>by rw[e,Nat.mul_zero]at hj; exact absurd hj (Nat.not_lt_zero _)
  have hi:j / m<m1:=Nat.div_lt_of_lt_mul (by rwa [Nat.mul_comm]);have h1:=huv (j / m) hi (j % m) (Nat.mod_lt _ hm0);rw[Nat.div_add_mod,not_NZ hn0 _ hi,hz0]at h1;exact hj0 h1
 refine Nat.le_trans (Nat.mul_le_mul_right d2 (hA v hvs hvn)) (cn_grid_low (Q:=fun i=>decide (v i≠0)) (P:=fun j=>decide (u j≠0)) (n2:=m) (d:=d2) m1 fun i hi hq=>?_);have hq:=of_decide_eq_true hq;have h2:NZ m (wdS S F r n b M (v i)):=Classical.byContradiction fun hn0=>hq (wdS_zero hp h0 hI hn hM (not_NZ hn0))
 have h3:=show d2≤wtF m (wdS S F r n b M (v i)) from hB _ ⟨msgS S F r n b (v i),fun _ _=>rfl⟩ h2
 rw[show wtF m (wdS S F r n b M (v i))=cn (fun y=>decide (u (m*i+y)≠0)) m from cn_congr m fun c hc=>by rw[huv i hi c hc]]at h3;exact h3
end
end
end Go.Proofs.YtogfekjbpcfgmaaGreat
