/- Plain algebra: the ring of polynomials as coefficient functions, division, coprime polynomials. No Go here. Plain law of layer 19: the rational function of a word, and squarefree Goppa polynomials in characteristic 2. No Go here. Plain law of layer 19: words over a subfield, their images, coordinates and traces. No Go here. Plain: the code of the words whose images meet checks over the greater field. No Go here. Plain law of layer 5: division with remainder, step by step. No Go here. Plain: greatest common divisors and derivatives of lists of coefficients. No Go here. Plain: the example of layer 19, a Goppa code of 4 words. No Go here. -/
import Derived.Test.YtjdoneanohhkmaaGreatZtV10RNrm
import Derived.Test.YtjdoneanohhkmaaGreatZtV10RMatX
import Derived.Test.YtjdoneanohhkmaaGreatZtV10RGaoL
import Derived.Test.YtjdoneanohhkmaaGreatZtV10RMI
set_option linter.unusedVariables false
set_option linter.unusedSimpArgs false
namespace Cw
section
variable {R:Type} [CRing R]
theorem conv_dbl (f g:Nat→R){t N:Nat} (h:t<N):conv f g t=rsum N fun i=>rsum N fun j=>if i+j=t then f i*g j else 0:=by
 unfold conv
 rw[rsum_tail (n:=t+1) (m:=N) (by omega) fun i h1 _=>rsum_eq_zero fun j _=>if_neg (by omega)];refine rsum_congr fun i hi=>?_
 rw[rsum_single (k:=t - i) (by omega) fun j _ hne=>if_neg (by omega),if_pos (by omega)]
theorem conv_tri (f g h:Nat→R)(t:Nat):conv (conv f g) h t=rsum (t+1) fun i=>rsum (t+1) fun j=>rsum (t+1) fun k=>if i+j+k=t then f i*g j*h k else 0:=by
 rw[conv_dbl (conv f g) h (Nat.lt_succ_self t)];have e1:∀ s,s<t+1→(rsum (t+1) fun k=>if s+k=t then conv f g s*h k else 0)=rsum (t+1) fun i=>rsum (t+1) fun j=>rsum (t+1) fun k=>if i+j=s then (if s+k=t then f i*g j*h k else 0) else 0:=fun s hs=>by
  have e2:∀ k,(if s+k=t then conv f g s*h k else 0)=rsum (t+1) fun i=>rsum (t+1) fun j=>if i+j=s then (if s+k=t then f i*g j*h k else 0) else 0:=fun k=>by
   by_cases e:s+k=t
   ·simp only[if_pos e];rw[conv_dbl f g hs,←rsum_mul_right];refine rsum_congr fun i _=>?_
    rw[←rsum_mul_right];refine rsum_congr fun j _=>?_
    by_cases e3:i+j=s
    ·rw[if_pos e3,if_pos e3]
    ·rw[if_neg e3,if_neg e3,zero_mul]
   ·simp only[if_neg e,ite_self];rw[rsum_eq_zero fun i _=>rsum_eq_zero fun j _=>rfl]
  rw[rsum_congr fun k _=>e2 k,rsum_swap];refine rsum_congr fun i _=>?_
  rw[rsum_swap]
 rw[rsum_congr e1,rsum_swap];refine rsum_congr fun i hi=>?_
 rw[rsum_swap];refine rsum_congr fun j hj=>?_
 rw[rsum_swap];refine rsum_congr fun k hk=>?_
 by_cases e:i+j<t+1
 ·rw[rsum_single (k:=i+j) e fun s _ hne=>if_neg (fun e2=>hne e2.symm),if_pos rfl]
 ·rw[if_neg (by omega),rsum_eq_zero fun s hs=>if_neg (by omega)]
theorem conv_assoc (f g h:Nat→R)(t:Nat):conv (conv f g) h t=conv f (conv g h) t:=by
 rw[conv_comm f,conv_tri,conv_tri];rw[rsum_congr fun i _=>rsum_swap (t+1) (t+1) fun j k=>if i+j+k=t then f i*g j*h k else 0];rw[rsum_swap];rw[rsum_congr fun k _=>rsum_swap (t+1) (t+1) fun i j=>if i+j+k=t then f i*g j*h k else 0];rw[rsum_swap];refine rsum_congr fun j _=>rsum_congr fun k _=>rsum_congr fun i _=>?_
 by_cases e:i+j+k=t
 ·rw[if_pos e,if_pos (by omega)]; ac_rfl
 ·rw[if_neg e,if_neg (by omega)]
theorem conv_addr (f g h:Nat→R)(t:Nat):conv f (fun s=>g s+h s) t=conv f g t+conv f h t:=by
 unfold conv
 rw[←rsum_add];exact rsum_congr fun i _=>mul_add _ _ _
structure Pl (R:Type) [CRing R] where
 c:Nat→R
 fin:∃ n,LtD c n
theorem Pl.ext' {a b:Pl R} (h:∀ t,a.c t=b.c t):a=b:=by
 obtain⟨f,hf⟩:=a;obtain⟨g,hg⟩:=b;have e:f=g:=funext h;subst e;rfl
instance:Add (Pl R):=⟨fun a b=>⟨fun t=>a.c t+b.c t,by
 obtain⟨n,hn⟩:=a.fin;obtain⟨m,hm⟩:=b.fin;exact⟨n+m,fun t ht=>by show a.c t+b.c t=0; rw[hn t (by omega),hm t (by omega),add_zero]⟩⟩⟩
instance:Mul (Pl R):=⟨fun a b=>⟨conv a.c b.c,by
 obtain⟨n,hn⟩:=a.fin;obtain⟨m,hm⟩:=b.fin;exact⟨n+m,fun t ht=>conv_high hn hm (by omega)⟩⟩⟩
instance:Neg (Pl R):=⟨fun a=>⟨fun t=>- a.c t,by
 obtain⟨n,hn⟩:=a.fin;exact⟨n,fun t ht=>by show -a.c t=0; rw[hn t ht,neg_zero]⟩⟩⟩
instance:Zero (Pl R):=⟨⟨fun _=>0,0,fun _ _=>rfl⟩⟩
instance:One (Pl R):=⟨⟨fun t=>if t=0 then 1 else 0,1,fun t ht=>if_neg (by omega)⟩⟩
theorem pl_one (t:Nat):(1:Pl R).c t=if t=0 then 1 else 0:=rfl
instance:CRing (Pl R) where
 add_assoc' a b c:=Pl.ext' fun t=>add_a _ _ _
 add_comm' a b:=Pl.ext' fun t=>add_c _ _
 mul_assoc' a b c:=Pl.ext' fun t=>conv_assoc a.c b.c c.c t
 mul_comm' a b:=Pl.ext' fun t=>conv_comm a.c b.c t
 zero_add' a:=Pl.ext' fun t=>zero_add _
 neg_add' a:=Pl.ext' fun t=>neg_add _
 one_mul' a:=Pl.ext' fun t=>by
  show conv (fun t=>if t=0 then (1:R) else 0) a.c t=a.c t
  unfold conv
  rw[rsum_single (k:=0) (by omega) fun i _ hne=>by dsimp only; rw[if_neg hne,zero_mul]];dsimp only;rw[if_pos rfl,one_mul,Nat.sub_zero]
 mul_add' a b c:=Pl.ext' fun t=>conv_addr a.c b.c c.c t
def Pl.lt (a:Pl R)(n:Nat):Prop:=LtD a.c n
def Pl.k (x:R):Pl R:=⟨fun t=>if t=0 then x else 0,1,fun t ht=>if_neg (by omega)⟩
def Pl.lin (x:R):Pl R:=⟨fun t=>if t=0 then -x else if t=1 then 1 else 0,2,fun t ht=>by dsimp only; rw[if_neg (by omega),if_neg (by omega)]⟩
theorem pl_k_mul (x:R)(a:Pl R)(t:Nat):(Pl.k x*a).c t=x*a.c t:=by
 show conv (fun t=>if t=0 then x else 0) a.c t=_
 unfold conv
 rw[rsum_single (k:=0) (by omega) fun i _ hne=>by dsimp only; rw[if_neg hne,zero_mul]];dsimp only;rw[if_pos rfl,Nat.sub_zero]
theorem pl_lin_mul (x:R)(a:Pl R)(t:Nat):(Pl.lin x*a).c t=(if t=0 then 0 else a.c (t - 1)) - x*a.c t:=by
 show conv (fun t=>if t=0 then -x else if t=1 then 1 else 0) a.c t=_
 unfold conv
 cases t with
 | zero =>
  rw[rsum_succ,rsum_zero,zero_add];dsimp only;rw[if_pos rfl,if_pos rfl,zero_sub,neg_mul]
 | succ k =>
  rw[rsum_succ_left,rsum_succ_left,rsum_eq_zero (n:=k) fun i hi=>by dsimp only; rw[if_neg (by omega),if_neg (by omega),zero_mul]];dsimp only;rw[if_pos rfl,if_neg (by omega),if_pos rfl,if_neg (by omega),add_zero,one_mul,neg_mul,sub_d,add_c];rfl
noncomputable def Pl.ev (a:Pl R)(x:R):R:=vl a.c (Classical.choose a.fin) x
theorem pl_ev {a:Pl R} {n:Nat} (h:a.lt n)(x:R):a.ev x=vl a.c n x:=by
 have h2:=Classical.choose_spec a.fin;unfold Pl.ev;rcases Nat.le_total n (Classical.choose a.fin) with g | g
 ·exact vl_more h g x
 ·exact (vl_more h2 g x).symm
theorem ev_mul (a b:Pl R)(x:R):(a*b).ev x=a.ev x*b.ev x:=by
 obtain⟨n,hn⟩:=a.fin;obtain⟨m,hm⟩:=b.fin;rw[pl_ev hn,pl_ev hm,pl_ev (a:=a*b) (n:=n+m) (fun t ht=>conv_high hn hm (by omega))];exact vl_conv hn hm x
theorem ev_k (y x:R):(Pl.k y).ev x=y:=by
 rw[pl_ev (n:=1) (fun t ht=>if_neg (by omega))];unfold vl;rw[rsum_succ,rsum_zero,zero_add]
 show (if (0:Nat)=0 then y else 0)*1=y
 rw[if_pos rfl,mul_one]
theorem ev_lin (y x:R):(Pl.lin y).ev x=x - y:=by
 rw[pl_ev (n:=2) (fun t ht=>by show (if t=0 then -y else if t=1 then 1 else 0)=0; rw[if_neg (by omega),if_neg (by omega)])];unfold vl;rw[rsum_succ,rsum_succ,rsum_zero,zero_add]
 show (if (0:Nat)=0 then -y else if (0:Nat)=1 then (1:R) else 0)*1+(if (1:Nat)=0 then -y else if 1=1 then 1 else 0)*(1*x)=x - y
 rw[if_pos rfl,if_neg (by omega),if_pos rfl,mul_one,one_mul,one_mul,add_c];rfl
def Pl.dvd (a b:Pl R):Prop:=∃ c,b=c*a
theorem Pl.dvd.add {a b c:Pl R} (h:a.dvd b)(g:a.dvd c):a.dvd (b+c):=by
 obtain⟨u,rfl⟩:=h;obtain⟨v,rfl⟩:=g;exact⟨u+v,(add_mul _ _ _).symm⟩
theorem Pl.dvd.mul {a b:Pl R} (h:a.dvd b)(c:Pl R):a.dvd (c*b):=by
 obtain⟨u,rfl⟩:=h;exact⟨c*u,(mul_a _ _ _).symm⟩
theorem Pl.dvd.zero (a:Pl R):a.dvd 0:=⟨0,(zero_mul a).symm⟩
def Cop (a b:Pl R):Prop:=∃ u v,u*a+v*b=1
end
section
variable {F:Type} [CField F]
open CField (inv)
theorem dvd_zero {g a:Pl F} {n:Nat} (hg:g.lt (n+1))(h0:g.c n≠0)(ha:a.lt n)(h:g.dvd a):a=0:=by
 obtain⟨q,rfl⟩:=h;obtain⟨N,hN⟩:=q.fin;have hz:=conv_short (f:=g.c) (g:=q.c) (a:=n) h0 hg (fun t ht=>by
  rw[conv_comm]; exact ha t ht) N hN
 have e:q=0:=Pl.ext' hz;rw[e,zero_mul]
end
end Cw

namespace Cw
section
variable {R:Type} [CRing R]
theorem nsm_zero_r (n:Nat):nsm n (0:R)=0:=by rw[nsm_mul,mul_zero]
def Pl.D (a:Pl R):Pl R:=⟨fun t=>nsm (t+1) (a.c (t+1)),by
 obtain⟨n,hn⟩:=a.fin;exact⟨n,fun t ht=>by dsimp only; rw[hn (t+1) (by omega),nsm_zero_r]⟩⟩
theorem pl_D (a:Pl R)(t:Nat):a.D.c t=nsm (t+1) (a.c (t+1)):=rfl
def hP:List (R×R)→Pl R
 | []=>1
 | (x,_) :: l=>Pl.lin x*hP l
end
section
variable {F:Type} [CField F]
open CField (inv)
end
end Cw

namespace Go.Proofs.YtjdoneanohhkmaaGreat
open Go.RowKit Cw
open Cw.CField (inv)
section
variable {S F:FD} {r:R F.toDesc}
theorem char_two (hp:S.p=F.p):nsm S.p (1:R F.toDesc)=0:=by rw[hp]; exact char_R
theorem phi_onto (hp:S.p=F.p)(h0:muV S F r=0){y:R F.toDesc} (hy:InSub S.m y):∃ u:R S.toDesc,phi S F r u=y:=by
 refine Classical.byContradiction fun hno=>?_
 have hc:=char_two (S:=S) (F:=F) hp;have hq:S.q=F.p ^ S.m:=by rw[←hp]; rfl
 have h2:=S.toDesc.q2;have hfix:∀ x:R F.toDesc,InSub S.m x→pw x S.q=x:=fun x hx=>by
  have h3:pw x (F.p ^ S.m)=x:=hx;rw[←hq]at h3; exact h3
 have ha:∀ i,InSub S.m (if i<S.q then phi S F r (rel S.toDesc i) else y):=fun i=>by
  by_cases e:i<S.q
  ·rw[if_pos e]; exact phi_sub hp hc h0 _
  ·rw[if_neg e]; exact hy
 have key:=rsum_roots (n:=S.q+1) (f:=fun i=>if i=S.q then (1:R F.toDesc) else if i=1 then -1 else 0) (a:=fun i=>if i<S.q then phi S F r (rel S.toDesc i) else y)
  (fun i j hi hj e=>by
   by_cases g1:i<S.q
   ·by_cases g2:j<S.q
    ·rw[if_pos g1,if_pos g2]at e;have h3:=congrArg rcode (phi_inj hc h0 e);rw[rcode_rel g1,rcode_rel g2]at h3;exact h3
    ·rw[if_pos g1,if_neg g2]at e;exact absurd ⟨_,e⟩ hno
   ·by_cases g2:j<S.q
    ·rw[if_neg g1,if_pos g2]at e;exact absurd ⟨_,e.symm⟩ hno
    ·omega)
  (fun k _=>by
   have h3:=hfix _ (ha k);generalize (if k<S.q then phi S F r (rel S.toDesc k) else y)=x at h3 ⊢;rw[rsum_succ,if_pos rfl,one_mul,rsum_single (k:=1) (by omega) fun i hi hne=>by rw[if_neg (by omega),if_neg hne,zero_mul]];rw[if_neg (by omega),if_pos rfl,pw_one,neg_mul,one_mul,h3,neg_add]) (i:=S.q) (by omega)
 rw[if_pos rfl]at key;exact one_ne key
open Classical in
noncomputable def bk (S F:FD)(r:R F.toDesc)(y:R F.toDesc):R S.toDesc:=if h:∃ u,phi S F r u=y then Classical.choose h else 0
theorem bk_phi (hp:S.p=F.p)(h0:muV S F r=0)(u:R S.toDesc):bk S F r (phi S F r u)=u:=by
 have h:∃ u',phi S F r u'=phi S F r u:=⟨u,rfl⟩;unfold bk;rw[dif_pos h];exact phi_inj (char_two hp) h0 (Classical.choose_spec h)
theorem phi_bk (hp:S.p=F.p)(h0:muV S F r=0){y:R F.toDesc} (hy:InSub S.m y):phi S F r (bk S F r y)=y:=by
 have h:=phi_onto hp h0 hy;unfold bk;rw[dif_pos h];exact Classical.choose_spec h
theorem bk_out {y:R F.toDesc} (h:¬ ∃ u,phi S F r u=y):bk S F r y=0:=by unfold bk; rw[dif_neg h]
theorem phi_eq_zero (hp:S.p=F.p)(h0:muV S F r=0){u:R S.toDesc}:phi S F r u=0↔u=0:=by
 refine⟨fun h=>phi_inj (char_two hp) h0 (h.trans (phi_zero r).symm),fun h=>by rw[h,phi_zero]⟩
theorem row_iff (hp:S.p=F.p)(h0:muV S F r=0){n N:Nat} {b:Nat→R F.toDesc} (hI:IndS S.m n b){h:Nat→R F.toDesc} {c:Nat→Nat→R F.toDesc}
  (hc:∀ j,j<N→(∀ t,t<n→InSub S.m (c j t))∧rsum n (fun t=>c j t*b t)=h j) (u:Nat→R S.toDesc) :
  rsum N (fun j=>h j*phi S F r (u j))=0↔∀ t,t<n→rsum N (fun j=>bk S F r (c j t)*u j)=0:=by
 have hcc:=char_two (S:=S) (F:=F) hp;have e1:∀ t,t<n→phi S F r (rsum N fun j=>bk S F r (c j t)*u j)=rsum N fun j=>c j t*phi S F r (u j):=fun t ht=>by
  rw[phi_rsum hp];exact rsum_congr fun j hj=>by rw[phi_mul hcc h0,phi_bk hp h0 ((hc j hj).1 t ht)]
 have e2:rsum N (fun j=>h j*phi S F r (u j))=rsum n fun t=>(rsum N fun j=>c j t*phi S F r (u j))*b t:=by
  rw[rsum_congr (g:=fun j=>rsum n fun t=>c j t*phi S F r (u j)*b t) fun j hj=>by
   rw[←(hc j hj).2,←rsum_mul_right];exact rsum_congr fun t _=>by ac_rfl,rsum_swap]
  exact rsum_congr fun t _=>rsum_mul_right _ _ _
 rw[e2];constructor
 ·intro hz t ht;have h1:=hI _ (fun t ht=>InSub.rsum fun j hj=>((hc j hj).1 t ht).mul (phi_sub hp hcc h0 _)) hz t ht;exact (phi_eq_zero hp h0).1 ((e1 t ht).trans h1)
 ·intro hz;exact rsum_eq_zero fun t ht=>by rw[←e1 t ht,hz t ht,phi_zero,zero_mul]
theorem tr_sc {d:Nat} (s:Zp F.p)(x:R F.toDesc):∀ n,tr d (nsm n x)=nsm n (tr d x)
 | 0=>tr_zero_ d
 | n+1=>by rw[nsm_succ,tr_add,tr_sc s x n,nsm_succ]
theorem sc_nsm (n:Nat):sc (D:=F.toDesc) (zp F.p n)=nsm n 1:=by
 induction n with
 | zero=>rw[zp_zero,sc_zero]; rfl
 | succ n ih =>
  rw[nsm_succ,←ih,←zp_nsm,nsm_succ,sc_add,zp_nsm,sc_one]
theorem tr_all {d n:Nat} (hn:d*n=F.m)(hd1:1≤d){y:R F.toDesc} (h:∀ k,k<F.m→tr d (pw (Xc F.toDesc) k*y)=0):y=0:=by
 refine Classical.byContradiction fun hy=>?_
 obtain⟨z,hz⟩:=tr_onto (F:=R F.toDesc) (d:=d) ⟨n,hn.symm⟩ hd1;apply hz;have e1:z=rsum F.m (fun k=>sc (zp F.p (di (z*inv y) k))*pw (Xc F.toDesc) k)*y:=by
  have e2:rsum F.m (fun k=>sc (zp F.p (di (z*inv y) k))*pw (Xc F.toDesc) k)=z*inv y:=ev_digits (z*inv y);rw[e2,mul_a,inv_mul hy,mul_one]
 rw[e1,←rsum_mul_right,tr_sum_];refine rsum_eq_zero fun k hk=>?_
 rw[sc_nsm,mul_a,←nsm_mul,tr_sc (zp F.p 0),h k hk,nsm_zero_r]
theorem row_tr (hp:S.p=F.p)(h0:muV S F r=0){n N:Nat} (hn:S.m*n=F.m)(hn1:1≤n)(h:Nat→R F.toDesc)(u:Nat→R S.toDesc) :
  rsum N (fun j=>h j*phi S F r (u j))=0↔∀ k,k<F.m→rsum N (fun j=>bk S F r (tr S.m (pw (Xc F.toDesc) k*h j))*u j)=0:=by
 have hcc:=char_two (S:=S) (F:=F) hp;have hd:S.m∣F.m:=⟨n,hn.symm⟩;have e1:∀ k,phi S F r (rsum N fun j=>bk S F r (tr S.m (pw (Xc F.toDesc) k*h j))*u j)=tr S.m (pw (Xc F.toDesc) k*rsum N fun j=>h j*phi S F r (u j)):=fun k=>by
  rw[phi_rsum hp,←rsum_mul_left,tr_sum_];refine rsum_congr fun j _=>?_
  rw[phi_mul hcc h0,phi_bk hp h0 (tr_inSub (F:=R F.toDesc) hd _),mul_c,←tr_lin (F:=R F.toDesc) hn hn1 (phi_sub hp hcc h0 (u j))]
  congr 1
  ac_rfl
 constructor
 ·intro hz k hk;refine (phi_eq_zero hp h0).1 ?_;rw[e1,hz,mul_zero];exact tr_zero_ _
 ·intro hz;refine tr_all hn S.m1 fun k hk=>?_
  rw[←e1,hz k hk,phi_zero]
end
end Go.Proofs.YtjdoneanohhkmaaGreat
namespace Cw
section
variable {F:Type} [CField F]
theorem hP_ev:∀ (l:List (F×F)) (x:F),(hP l).ev x=0↔∃ a∈l,a.1=x
 | [],x=>by
  show (1:Pl F).ev x=0↔_
  rw[show (1:Pl F)=Pl.k 1 from rfl,ev_k];exact⟨fun h=>absurd h one_ne,fun⟨a,h,_⟩=>by cases h⟩
 | (y,v) :: l,x=>by
  show (Pl.lin y*hP l).ev x=0↔_
  rw[ev_mul,ev_lin];constructor
  ·intro h;rcases mul_eq_zero h with e | e
   ·exact⟨(y,v),List.mem_cons_self ..,(sub_eq_zero e).symm⟩
   ·obtain⟨a,h1,h2⟩:=(hP_ev l x).1 e;exact⟨a,List.mem_cons_of_mem _ h1,h2⟩
  ·rintro⟨a,h1,h2⟩;rcases List.mem_cons.1 h1 with e | e
   ·rw[e]at h2;rw[show y=x from h2,sub_self,zero_mul]
   ·rw[(hP_ev l x).2 ⟨a,e,h2⟩,mul_zero]
theorem hP_lt:∀ l:List (F×F),(hP l).lt (l.length+1)
 | []=>fun t ht=>if_neg (by simp at ht; omega)
 | (y,v) :: l=>fun t ht=>by
  have ih:=hP_lt l;rw[List.length_cons]at ht
  show (Pl.lin y*hP l).c t=0
  rw[pl_lin_mul,if_neg (by omega),ih (t - 1) (by omega),ih t (by omega),mul_zero,sub_zero]
theorem van_weight {N t:Nat} {x y u:Nat→F} (hinj:∀ i j,i<N→j<N→x i=x j→i=j)(hy:∀ j,j<N→y j≠0)(h:∀ i,i<t→rsum N (fun j=>y j*pw (x j) i*u j)=0)(p:Nat→Bool)(hp:∀ j,j<N→(p j=false→u j=0))
  {j0:Nat} (hj0:j0<N) (hu:u j0≠0):t+1≤((List.range N).filter p).length:=by
 refine Classical.byContradiction fun hlt=>?_
 have hm0:j0∈(List.range N).filter p:=List.mem_filter.2 ⟨List.mem_range.2 hj0,by
  cases e:p j0 with
  | true=>rfl
  | false=>exact absurd (hp j0 hj0 e) hu⟩
 obtain⟨T,hT⟩:∃ T,T=(((List.range N).filter p).erase j0):=⟨_,rfl⟩;have hl:T.length+1=((List.range N).filter p).length:=by
  rw[hT,List.length_erase_of_mem hm0];have:=List.length_pos_of_mem hm0;omega
 have hnd:((List.range N).filter p).Nodup:=List.Pairwise.filter _ List.nodup_range;obtain⟨f,hf⟩:∃ f,f=hP (T.map fun j=>(x j,(1:F))):=⟨_,rfl⟩;have hft:f.lt t:=by
  have h1:=hP_lt (T.map fun j=>(x j,(1:F)));rw[List.length_map,←hf]at h1;exact LtD.mono h1 (by omega)
 have e1:rsum N (fun j=>y j*u j*f.ev (x j))=0:=by
  rw[rsum_congr (g:=fun j=>rsum t fun i=>f.c i*(y j*pw (x j) i*u j)) fun j _=>by
   rw[pl_ev hft];unfold vl;rw[←rsum_mul_left];exact rsum_congr fun i _=>by ac_rfl,rsum_swap]
  exact rsum_eq_zero fun i hi=>by rw[rsum_mul_left,h i hi,mul_zero]
 rw[rsum_single (k:=j0) hj0 fun j hj hne=>?_]at e1
 ·rcases mul_eq_zero e1 with e | e
  ·exact mul_ne_zero (hy j0 hj0) hu e
  ·rw[hf]at e;obtain⟨a,h1,h2⟩:=(hP_ev _ _).1 e;obtain⟨j,hj,rfl⟩:=List.mem_map.1 h1;rw[hT,hnd.mem_erase_iff]at hj;exact hj.1 (hinj j j0 (List.mem_range.1 (List.mem_filter.1 hj.2).1) hj0 h2)
 ·cases e:p j with
  | false=>rw[hp j hj e,mul_zero,zero_mul]
  | true =>
   have h3:f.ev (x j)=0:=by
    rw[hf];refine (hP_ev _ _).2 ⟨(x j,1),List.mem_map.2 ⟨j,?_,rfl⟩,rfl⟩;rw[hT,hnd.mem_erase_iff];exact⟨hne,List.mem_filter.2 ⟨List.mem_range.2 hj,e⟩⟩
   rw[h3,mul_zero]
end
end Cw

namespace Go.Proofs.YtjdoneanohhkmaaGreat
section
open Go.RowKit Cw
section
variable {S F:FD} {r:R F.toDesc} {N t k n:Nat} {h:Nat→Nat→R F.toDesc} {E:Nat→Nat→R S.toDesc}
def Meets (S F:FD)(r:R F.toDesc)(N t:Nat)(h:Nat→Nat→R F.toDesc)(u:Nat→R S.toDesc):Prop:=∀ i,i<t→rsum N (fun j=>h i j*phi S F r (u j))=0
def Tells (S F:FD)(r:R F.toDesc)(N t:Nat)(h:Nat→Nat→R F.toDesc)(k:Nat)(E:Nat→Nat→R S.toDesc):Prop:=∀ u,Orth k N E u↔Meets S F r N t h u
theorem Tells.zero (S F:FD)(r:R F.toDesc)(N:Nat)(h:Nat→Nat→R F.toDesc)(E:Nat→Nat→R S.toDesc):Tells S F r N 0 h 0 E:=fun _=>⟨fun _ i hi=>absurd hi (Nat.not_lt_zero i),fun _ i hi=>absurd hi (Nat.not_lt_zero i)⟩
noncomputable def lineM (S F:FD)(r:R F.toDesc)(c:Nat→Nat→R F.toDesc):Nat→Nat→R S.toDesc:=fun i j=>bk S F r (c j i)
theorem Meets.succ (u:Nat→R S.toDesc):Meets S F r N (t+1) h u↔Meets S F r N t h u∧rsum N (fun j=>h t j*phi S F r (u j))=0:=by
 constructor
 ·intro g;exact⟨fun i hi=>g i (by omega),g t (by omega)⟩
 ·rintro⟨g1,g2⟩ i hi;by_cases e:i=t
  ·subst e; exact g2
  ·exact g1 i (by omega)
theorem Tells.step (hp:S.p=F.p)(h0:muV S F r=0){b:Nat→R F.toDesc} (hI:IndS S.m n b)(hT:Tells S F r N t h k E){c:Nat→Nat→R F.toDesc}
  (hc:∀ j,j<N→(∀ i,i<n→InSub S.m (c j i))∧rsum n (fun i=>c j i*b i)=h t j) :
  Tells S F r N (t+1) h (rkS S (k+n) N (stackR k E (lineM S F r c))) (elS (k+n) (stackR k E (lineM S F r c)) N).1:=fun u=>by
 have h1:Orth (rkS S (k+n) N (stackR k E (lineM S F r c))) N (elS (k+n) (stackR k E (lineM S F r c)) N).1 u↔Orth (k+n) N (stackR k E (lineM S F r c)) u:=Orth.same (elS_span (k+n) N (stackR k E (lineM S F r c))) u;rw[h1,orth_stack,hT u,Meets.succ,row_iff hp h0 hI hc u];exact Iff.rfl
noncomputable def kerK (S:FD)(k N:Nat)(E:Nat→Nat→R S.toDesc):Nat:=(npv (pvF (elS k E N).2) (rkS S k N E) N).length
noncomputable def kerM (S:FD)(k N:Nat)(E:Nat→Nat→R S.toDesc):Nat→Nat→R S.toDesc:=(elS (kerK S k N E) (nulM (rkS S k N E) N (pvF (elS k E N).2) (elS k E N).1) N).1
theorem kerK_le (S:FD)(k N:Nat)(E:Nat→Nat→R S.toDesc):kerK S k N E≤N:=by
 have h:=List.length_filter_le (fun c=>!decide (∃ i,i<rkS S k N E∧pvF (elS k E N).2 i=c)) (List.range N);rw[List.length_range]at h; exact h
theorem Tells.code (hT:Tells S F r N t h k E)(u:Nat→R S.toDesc) :
  Span (rkS S (kerK S k N E) N (kerM S k N E)) N (elS (kerK S k N E) (kerM S k N E) N).1 u↔Meets S F r N t h u:=by
 have h1:=same_iff (elS_span (kerK S k N E) N (kerM S k N E)) u;have hr:rkS S (kerK S k N E) N (nulM (rkS S k N E) N (pvF (elS k E N).2) (elS k E N).1)=kerK S k N E:=elS_rank nul_indep;have h2:=elS_span (kerK S k N E) N (nulM (rkS S k N E) N (pvF (elS k E N).2) (elS k E N).1);rw[show (elS (kerK S k N E) (nulM (rkS S k N E) N (pvF (elS k E N).2) (elS k E N).1) N).2.length=kerK S k N E from hr]at h2;have h3:Span (kerK S k N E) N (kerM S k N E) u↔_:=same_iff h2 u;have h4:=nul_iff (elS_RR k N E) u;have h5:Orth (rkS S k N E) N (elS k E N).1 u↔Orth k N E u:=Orth.same (elS_span k N E) u;exact h1.trans (h3.trans (h4.trans (h5.trans (hT u))))
theorem ker_dim {T:Nat} (hk:k≤T):N≤rkS S (kerK S k N E) N (kerM S k N E)+T:=by
 have hr:rkS S (kerK S k N E) N (nulM (rkS S k N E) N (pvF (elS k E N).2) (elS k E N).1)=kerK S k N E:=elS_rank nul_indep;have hc:=canl_elS S (kerK S k N E) N (nulM (rkS S k N E) N (pvF (elS k E N).2) (elS k E N).1);rw[hr]at hc;have h1:rkS S (kerK S k N E) N (kerM S k N E)=kerK S k N E:=hc.1;have hR:=elS_RR k N E;have h2:kerK S k N E+rkS S k N E=N:=npv_len (m:=N) _ hR.lt hR.inj;have h3:rkS S k N E≤k:=(elS_le k E N).1;omega
end
end
section
open Go.RowKit Cw
open Cw.CField (inv)

section
variable {D:Desc}
def remF (f g:Nat→R D)(iv:R D)(d Q:Nat):Nat→Nat→R D
 | 0=>f
 | s+1=>fun t=>remF f g iv d Q s t - if Q - 1 - s≤t then remF f g iv d Q s (Q - 1 - s+d)*iv*g (t - (Q - 1 - s)) else 0
def quoF (f g:Nat→R D)(iv:R D)(d Q:Nat)(n:Nat):R D:=remF f g iv d Q (Q - 1 - n) (n+d)*iv
def quoS (f g:Nat→R D)(iv:R D)(d Q s:Nat)(i:Nat):R D:=if Q - s≤i∧i<Q then quoF f g iv d Q i else 0
variable {f g:Nat→R D} {iv:R D} {d Q:Nat}
theorem remF_succ {s n:Nat} (hs:Q=n+1+s)(t:Nat):remF f g iv d Q (s+1) t=remF f g iv d Q s t - if n≤t then quoF f g iv d Q n*g (t - n) else 0:=by
 show remF f g iv d Q s t - (if Q - 1 - s≤t then remF f g iv d Q s (Q - 1 - s+d)*iv*g (t - (Q - 1 - s)) else 0)=_
 unfold quoF;rw[show Q - 1 - s=n by omega,show Q - 1 - n=s by omega]
theorem quoF_at {s n:Nat} (hs:Q=n+1+s):quoF f g iv d Q n=remF f g iv d Q s (n+d)*iv:=by unfold quoF; rw[show Q - 1 - n=s by omega]
theorem remF_lt (hf:LtD f (d+Q))(hg:LtD g (d+1))(hiv:iv*g d=1):∀ s,s≤Q→LtD (remF f g iv d Q s) (d+Q - s)
 | 0,_=>hf
 | s+1,h=>fun t ht=>by
  obtain⟨n,hn⟩:∃ n,Q=n+1+s:=⟨Q - 1 - s,by omega⟩;have ih:=remF_lt hf hg hiv s (by omega);rw[remF_succ hn,if_pos (by omega),quoF_at hn];by_cases e:t=n+d
  ·rw[e,show n+d - n=d by omega,mul_a,hiv,mul_one,sub_self]
  ·rw[ih t (by omega),hg _ (by omega),mul_zero,sub_zero]
theorem conv_add_l {R:Type} [CRing R] (f h g:Nat→R)(t:Nat):conv (fun s=>f s+h s) g t=conv f g t+conv h g t:=by
 unfold conv
 rw[←rsum_add];exact rsum_congr fun i _=>add_mul _ _ _
theorem conv_single {R:Type} [CRing R] (n:Nat)(c:R)(g:Nat→R)(t:Nat):conv (fun s=>if s=n then c else 0) g t=if n≤t then c*g (t - n) else 0:=by
 unfold conv
 by_cases h:n≤t
 ·rw[if_pos h,rsum_single (k:=n) (by omega) fun i _ hne=>by dsimp only; rw[if_neg hne,zero_mul]];dsimp only;rw[if_pos rfl]
 ·rw[if_neg h];exact rsum_eq_zero fun i hi=>by dsimp only; rw[if_neg (by omega),zero_mul]
theorem quoS_succ {s n:Nat} (hs:Q=n+1+s)(i:Nat):quoS f g iv d Q (s+1) i=quoS f g iv d Q s i+if i=n then quoF f g iv d Q n else 0:=by
 unfold quoS;by_cases e:i=n
 ·rw[if_pos (by omega),if_neg (by omega),if_pos e,zero_add,e]
 ·rw[if_neg e,add_zero];by_cases e2:Q - s≤i∧i<Q
  ·rw[if_pos e2,if_pos (by omega)]
  ·rw[if_neg e2,if_neg (by omega)]
theorem remF_eq:∀ s,s≤Q→∀ t,f t=conv (quoS f g iv d Q s) g t+remF f g iv d Q s t
 | 0,_,t=>by
  rw[show conv (quoS f g iv d Q 0) g t=0 from rsum_eq_zero fun i _=>by unfold quoS; rw[if_neg (by omega),zero_mul],zero_add]; rfl
 | s+1,h,t=>by
  obtain⟨n,hn⟩:∃ n,Q=n+1+s:=⟨Q - 1 - s,by omega⟩;rw[remF_eq s (by omega) t,remF_succ hn,show quoS f g iv d Q (s+1)=fun i=>quoS f g iv d Q s i+if i=n then quoF f g iv d Q n else 0 from funext fun i=>quoS_succ hn i,conv_add_l,conv_single,add_a]
  congr 1
  rw[add_c,sub_add_cancel]
end
theorem div_ok {F:FD} {p q:List Int} {d A Q:Nat} (hq:(canI F.toDesc q).length=d+1)(hA:(canI F.toDesc p).length=A)(hQ:Q=A - d) :
  DivI F.toDesc p q (canL (fun i=>ci (quoS (cfR F.toDesc p) (cfR F.toDesc q) (inv (cfR F.toDesc q d)) d Q Q i)) Q) (canL (fun i=>ci (remF (cfR F.toDesc p) (cfR F.toDesc q) (inv (cfR F.toDesc q d)) d Q Q i)) A):=by
 have hf:LtD (cfR F.toDesc p) (d+Q):=fun t ht=>by rw[←cfR_canI]; exact cfR_out F.toDesc (by omega)
 have hg:LtD (cfR F.toDesc q) (d+1):=fun t ht=>by rw[←cfR_canI]; exact cfR_out F.toDesc (by omega)
 have hl:cfR F.toDesc q d≠0:=by rw[←cfR_canI]; exact can_lead (canI_canI F.toDesc q) hq
 have hr:=remF_lt hf hg (inv_mul hl) Q (Nat.le_refl _);have hQ0:∀ i,Q≤i→quoS (cfR F.toDesc p) (cfR F.toDesc q) (inv (cfR F.toDesc q d)) d Q Q i=0:=fun i hi=>by unfold quoS; rw[if_neg (by omega)]
 have hR0:∀ i,A≤i→remF (cfR F.toDesc p) (cfR F.toDesc q) (inv (cfR F.toDesc q d)) d Q Q i=0:=fun i hi=>by
  by_cases e:A≤d
  ·have e2:Q=0:=by omega
   rw[e2]
   show cfR F.toDesc p i=0
   rw[←cfR_canI]; exact cfR_out F.toDesc (by omega)
  ·exact hr i (by omega)
 refine⟨canI_can _ _ hQ0,canI_can _ _ hR0,fun s=>?_,?_⟩
 ·rw[cfR_can _ _ hQ0,cfR_can _ _ hR0];exact remF_eq Q (Nat.le_refl _) s
 ·rw[hq];have:=can_short (canI_can _ _ hR0) (n:=d) fun t ht=>by rw[cfR_can _ _ hR0]; exact hr t (by omega)
  omega
end
section
open Go.RowKit Cw
open Cw.CField (inv)
def plI (D:Desc)(p:List Int):Pl (R D):=⟨cfR D p,p.length,cfR_lt D p⟩
theorem DivI.pl {D:Desc} {p q quo rem:List Int} (h:DivI D p q quo rem):plI D p=plI D quo*plI D q+plI D rem:=Pl.ext' h.eq
theorem plI_nil (D:Desc):plI D []=0:=Pl.ext' fun _=>cfR_out D (Nat.zero_le _)
structure GcdI (D:Desc) (a b:Pl (R D)) (l:List Int):Prop where
 can:canI D l=l
 da:(plI D l).dvd a
 db:(plI D l).dvd b
 bez:∃ u v,u*a+v*b=plI D l
theorem plI_canI (D:Desc)(p:List Int):plI D (canI D p)=plI D p:=Pl.ext' fun t=>congrFun (cfR_canI D p) t
theorem GcdI.step {D:Desc} {p q quo rem l:List Int} (hd:DivI D p q quo rem)(h:GcdI D (plI D q) (plI D rem) l):GcdI D (plI D p) (plI D q) l:=by
 refine⟨h.can,?_,h.da,?_⟩
 ·rw[hd.pl];exact (h.da.mul _).add h.db
 ·obtain⟨u,v,e⟩:=h.bez;refine⟨v,u - v*plI D quo,?_⟩;rw[←e,hd.pl,mul_add,sub_d,add_mul,neg_mul];rw[show v*plI D quo*plI D q=v*(plI D quo*plI D q) from mul_a _ _ _];generalize v*(plI D quo*plI D q)=x;generalize v*plI D rem=y;generalize u*plI D q=z;rw[show x+y+(z+-x)=z+y+(x+-x) by ac_rfl,add_neg,add_zero]
section
variable {F:FD}
theorem GcdI.one {a b:Pl (R F.toDesc)} {l:List Int} (h:GcdI F.toDesc a b l):l.length=1↔Cop a b:=by
 constructor
 ·intro e;have h0:cfR F.toDesc l 0≠0:=can_lead h.can e;obtain⟨u,v,e2⟩:=h.bez;refine⟨Pl.k (inv (cfR F.toDesc l 0))*u,Pl.k (inv (cfR F.toDesc l 0))*v,?_⟩;rw[mul_a,mul_a,←mul_add,e2];refine Pl.ext' fun t=>?_
  rw[pl_k_mul,pl_one]
  show _*cfR F.toDesc l t=_
  by_cases ht:t=0
  ·subst ht; rw[if_pos rfl,inv_mul h0]
  ·rw[if_neg ht,cfR_out F.toDesc (show l.length≤t by omega),mul_zero]
 ·rintro⟨u,v,e⟩;have h1:(plI F.toDesc l).dvd 1:=by rw[←e]; exact (h.da.mul u).add (h.db.mul v)
  have hne:l.length≠0:=fun e0=>by
   obtain⟨q,e2⟩:=h1;rw[List.eq_nil_of_length_eq_zero e0,plI_nil,mul_zero]at e2;have:=congrArg (fun a:Pl (R F.toDesc)=>a.c 0) e2;rw[pl_one,if_pos rfl]at this;exact one_ne this
  refine Classical.byContradiction fun hn=>?_
  obtain⟨n,hl⟩:∃ n,l.length=n+1:=⟨l.length - 1,by omega⟩;have h3:=dvd_zero (g:=plI F.toDesc l) (a:=1) (n:=n) (fun t ht=>cfR_out _ (by omega)) (can_lead h.can hl) (fun t ht=>if_neg (by omega)) h1;have:=congrArg (fun a:Pl (R F.toDesc)=>a.c 0) h3;rw[pl_one,if_pos rfl]at this;exact one_ne this
theorem GcdI.monic {p l:List Int} {x:R F.toDesc} (hx:x≠0)(hl:canI F.toDesc l=l)(h:∀ t,cfR F.toDesc l t=x*cfR F.toDesc p t):GcdI F.toDesc (plI F.toDesc p) 0 l:=by
 have e:plI F.toDesc l=Pl.k x*plI F.toDesc p:=Pl.ext' fun t=>by rw[pl_k_mul]; exact h t
 have e2:plI F.toDesc p=Pl.k (inv x)*plI F.toDesc l:=Pl.ext' fun t=>by
  rw[pl_k_mul]
  show cfR F.toDesc p t=inv x*cfR F.toDesc l t
  rw[h t,←mul_a,inv_mul hx,one_mul]
 refine⟨hl,⟨_,e2⟩,Pl.dvd.zero _,Pl.k x,0,?_⟩;rw[zero_mul,add_zero,e]
theorem GcdI.nil:GcdI F.toDesc 0 0 []:=⟨rfl,Pl.dvd.zero _,Pl.dvd.zero _,0,0,by rw[plI_nil,zero_mul,add_zero]⟩
end
def derI (D:Desc)(p:List Int):List Int:=canL (fun i=>ci (nsm (i+1) (cfR D p (i+1)))) (p.length - 1)
theorem derI_can (D:Desc)(p:List Int):canI D (derI D p)=derI D p:=canI_can (fun i=>nsm (i+1) (cfR D p (i+1))) _ fun i h=>by rw[cfR_out D (by omega),nsm_zero_r]
theorem derI_pl (D:Desc)(p:List Int):plI D (derI D p)=(plI D p).D:=Pl.ext' fun t=>by
 show cfR D (derI D p) t=nsm (t+1) (cfR D p (t+1))
 have h:=cfR_can (fun i=>nsm (i+1) (cfR D p (i+1))) (p.length - 1) fun i h=>by rw[cfR_out D (by omega),nsm_zero_r]
 exact congrFun h t
theorem derI_le (D:Desc)(p:List Int):(derI D p).length≤p.length - 1:=by unfold derI; rw[canL_length]; exact cdeg_le _ _
theorem nsm_mod_D (D:Desc)(n:Nat):nsm n (1:R D)=nsm (n % D.p) 1:=by
 have h:n=n / D.p*D.p+n % D.p:=by rw[Nat.mul_comm]; exact (Nat.div_add_mod n D.p).symm
 have h2:nsm (n / D.p*D.p) (1:R D)=0:=nsm_dvd char_R ⟨n / D.p,Nat.mul_comm _ _⟩ 1;rw[h,nsm_add,h2,zero_add,←h]
theorem eli_mod (D:Desc)(n:Nat):eli D ((n % D.p:Nat):Int)=nsm n 1:=by
 have hp:=D.p2;have hm:=D.m1;have h1:n % D.p<D.p:=Nat.mod_lt _ (by omega);have h2:D.p≤D.q:=by
  have:D.p ^ 1≤D.p ^ D.m:=Nat.pow_le_pow_right (by omega) hm;rw[Nat.pow_one]at this;exact this
 have h3:eli D ((n % D.p:Nat):Int)=rel D (n % D.p):=by
  unfold eli;rw[if_pos ⟨by omega,by omega⟩];rfl
 rw[h3,nsm_mod_D D n];generalize n % D.p=k at h1;refine R.ext' fun i hi=>?_
 rw[nsm_v,one_v hi];unfold rel;rw[cut_v hi];by_cases e:i=0
 ·subst e;rw[if_pos rfl,zp_nsm,Nat.pow_zero,Nat.div_one]
 ·have h5:k<D.p ^ i:=by
   have:D.p ^ 1≤D.p ^ i:=Nat.pow_le_pow_right (by omega) (by omega);rw[Nat.pow_one]at this;omega
  rw[if_neg e,nsm_zero_r,Nat.div_eq_of_lt h5,zp_zero]
end
section
open Go.RowKit Cw
open Cw.CField (inv)
noncomputable def gopM (F:FD)(poly pts:List Int):Nat→Nat→R F.toDesc:=fun i j=>pw (eli F.toDesc (pts[j]?.getD 0)) i*inv (pevI F.toDesc poly (eli F.toDesc (pts[j]?.getD 0)))
def D2:Desc where
 p:=2
 m:=1
 mod:=[]
 hp:=prime_dec (by decide) (by decide)
 m1:=by decide
 m8:=by decide
 hq:=by decide
 hlen:=by decide
 hmod:=fun j=>by simp
theorem qpos19 (D:Desc):0<D.q:=by have:=D.q2; omega
theorem good2:Good D2.p D2.m (modL D2):=⟨D2,rfl,rfl,rfl,.inl rfl⟩
theorem good8:Good E2_3.p E2_3.m (modL E2_3):=⟨E2_3,rfl,rfl,rfl,.inr E2_3_irr⟩
def pts19:List Int:=[0,1,2,3,4,5,6,7]
def alIv:List Nat:=[1,1,4,4,6,6,2,2]
def alH:List (List Nat):=[[1,1,4,4,6,6,2,2],[0,1,3,7,5,3,7,5]]
def tB (l:List Nat)(i:Nat):Bool:=decide (rcode (rsum 8 fun j=>rel E2_3 (((alH.getD i []).getD j 0)*l.getD j 0))=0)
def al0:List Nat:=[0,0,0,0,0,0,0,0]
def al1:List Nat:=[1,1,1,0,1,0,1,0]
def al2:List Nat:=[1,1,0,1,0,1,0,1]
def al3:List Nat:=[0,0,1,1,1,1,1,1]
def alB (l:List Nat):Bool:=!(tB l 0&&tB l 1) || (decide (l=al0) || decide (l=al1) || decide (l=al2) || decide (l=al3))
theorem key19:∀ b0 b1 b2 b3 b4 b5 b6 b7:Fin 2,alB [b0.val,b1.val,b2.val,b3.val,b4.val,b5.val,b6.val,b7.val]=true:=by decide +kernel
theorem in1:∀ i:Fin 2,tB al1 i.val=true:=by decide +kernel
theorem in2:∀ i:Fin 2,tB al2 i.val=true:=by decide +kernel
theorem iv19:∀ j:Fin 8,rcode (pevI E2_3 [1,1,1] (eli E2_3 (pts19[j.val]?.getD 0))*rel E2_3 (alIv.getD j.val 0))=rcode (1:R E2_3):=by decide +kernel
theorem h19:∀ i:Fin 2,∀ j:Fin 8,rcode (pw (eli E2_3 (pts19[j.val]?.getD 0)) i.val*rel E2_3 (alIv.getD j.val 0))=rcode (rel E2_3 ((alH.getD i.val []).getD j.val 0)):=by decide +kernel
theorem iv19D {D:Desc} (h:D=E2_3)(j:Fin 8):rcode (pevI D [1,1,1] (eli D (pts19[j.val]?.getD 0))*rel D (alIv.getD j.val 0))=rcode (1:R D):=by subst h; exact iv19 j
theorem h19D {D:Desc} (h:D=E2_3)(i:Fin 2)(j:Fin 8):rcode (pw (eli D (pts19[j.val]?.getD 0)) i.val*rel D (alIv.getD j.val 0))=rcode (rel D ((alH.getD i.val []).getD j.val 0)):=by subst h; exact h19 i j
theorem tBD {D:Desc} (h:D=E2_3)(l:List Nat)(i:Nat):rsum 8 (fun j=>rel D (((alH.getD i []).getD j 0)*l.getD j 0))=0↔tB l i=true:=by
 subst h;unfold tB;rw[decide_eq_true_iff];constructor
 ·intro g; rw[g]; exact rcode_zero
 ·intro g; exact rcode_inj (g.trans rcode_zero.symm)
theorem gopM19 {F:FD} (hF:F.toDesc=E2_3){i j:Nat} (hi:i<2)(hj:j<8):gopM F [1,1,1] pts19 i j=rel F.toDesc ((alH.getD i []).getD j 0):=by
 have h1:=rcode_inj (iv19D hF ⟨j,hj⟩);dsimp only at h1;have h2:=rcode_inj (h19D hF ⟨i,hi⟩ ⟨j,hj⟩);dsimp only at h2;unfold gopM;rw[←inv_unique h1];exact h2
theorem bit_cases {D:Desc} (h:D=D2)(x:R D):x=0∧rcode x=0∨x=1∧rcode x=1:=by
 subst h;have h:rcode x<2:=rcode_lt x;have h1:rcode x=0∨rcode x=1:=by omega
 rcases h1 with e | e
 ·exact .inl ⟨rcode_inj (e.trans rcode_zero.symm),e⟩
 ·exact .inr ⟨rcode_inj (e.trans rcode_one.symm),e⟩
theorem meets19 {S F:FD} (hS:S.toDesc=D2)(hF:F.toDesc=E2_3)(r:R F.toDesc){u:Nat→R S.toDesc} {l:List Nat} (hl:∀ j,j<8→rcode (u j)=l.getD j 0) :
  Meets S F r 8 2 (gopM F [1,1,1] pts19) u↔∀ i:Fin 2,tB l i.val=true:=by
 have key:∀ i,i<2→(rsum 8 (fun j=>gopM F [1,1,1] pts19 i j*phi S F r (u j))=0↔tB l i=true):=fun i hi=>by
  have e:rsum 8 (fun j=>gopM F [1,1,1] pts19 i j*phi S F r (u j))=rsum 8 fun j=>rel F.toDesc (((alH.getD i []).getD j 0)*l.getD j 0):=rsum_congr fun j hj=>by
   rw[gopM19 hF hi hj,←hl j hj];rcases bit_cases hS (u j) with ⟨e1,e2⟩ | ⟨e1,e2⟩
   ·rw[e2,e1,phi_zero,mul_zero,Nat.mul_zero];exact (rcode_inj ((rcode_rel (qpos19 F.toDesc)).trans rcode_zero.symm)).symm
   ·rw[e2,e1,phi_one,mul_one,Nat.mul_one]
  rw[e];exact tBD hF l i
 constructor
 ·intro h i; exact (key i.val i.isLt).1 (h i.val i.isLt)
 ·intro h i hi; exact (key i hi).2 (h ⟨i,hi⟩)
def alC (D:Desc):Nat→Nat→R D:=fun i j=>rel D ((if i=0 then al1 else al2).getD j 0)
def finB (a b:Nat)(l:List Nat):Bool:=decide (∀ j:Fin 8,rcode (rel D2 (l.getD j.val 0))=rcode (rel D2 a*alC D2 0 j.val+rel D2 b*alC D2 1 j.val))
theorem finD {D:Desc} (h:D=D2){a b:Nat} {l:List Nat} (hb:finB a b l=true)(j:Fin 8):rel D (l.getD j.val 0)=rel D a*alC D 0 j.val+rel D b*alC D 1 j.val:=by
 subst h;exact rcode_inj (of_decide_eq_true hb j)
theorem fin0:finB 0 0 al0=true:=by decide +kernel
theorem fin1:finB 1 0 al1=true:=by decide +kernel
theorem fin2:finB 0 1 al2=true:=by decide +kernel
theorem fin3:finB 1 1 al3=true:=by decide +kernel
theorem span19 {S F:FD} (hS:S.toDesc=D2)(hF:F.toDesc=E2_3)(r:R F.toDesc)(u:Nat→R S.toDesc)(h:Meets S F r 8 2 (gopM F [1,1,1] pts19) u):Span 2 8 (alC S.toDesc) u:=by
 have hlt:∀ j,rcode (u j)<2:=fun j=>by rcases bit_cases hS (u j) with ⟨-,e⟩ | ⟨-,e⟩ <;> omega
 have h1:=(meets19 hS hF r (u:=u) (l:=[rcode (u 0),rcode (u 1),rcode (u 2),rcode (u 3),rcode (u 4),rcode (u 5),rcode (u 6),rcode (u 7)]) (fun j hj=>by
  match j,hj with
  | 0,_=>rfl
  | 1,_=>rfl
  | 2,_=>rfl
  | 3,_=>rfl
  | 4,_=>rfl
  | 5,_=>rfl
  | 6,_=>rfl
  | 7,_=>rfl)).1 h
 have h2:=key19 ⟨_,hlt 0⟩ ⟨_,hlt 1⟩ ⟨_,hlt 2⟩ ⟨_,hlt 3⟩ ⟨_,hlt 4⟩ ⟨_,hlt 5⟩ ⟨_,hlt 6⟩ ⟨_,hlt 7⟩;unfold alB at h2;rw[show tB [rcode (u 0),rcode (u 1),rcode (u 2),rcode (u 3),rcode (u 4),rcode (u 5),rcode (u 6),rcode (u 7)] 0=true from h1 0,show tB [rcode (u 0),rcode (u 1),rcode (u 2),rcode (u 3),rcode (u 4),rcode (u 5),rcode (u 6),rcode (u 7)] 1=true from h1 1]at h2;simp only[Bool.and_self,Bool.not_true,Bool.false_or,Bool.or_eq_true,decide_eq_true_eq]at h2;have fin:∀ (a b:Nat) (l:List Nat),finB a b l=true→[rcode (u 0),rcode (u 1),rcode (u 2),rcode (u 3),rcode (u 4),rcode (u 5),rcode (u 6),rcode (u 7)]=l→Span 2 8 (alC S.toDesc) u:=fun a b l hd e=>by
  refine⟨fun i=>if i=0 then rel S.toDesc a else rel S.toDesc b,fun j hj=>?_⟩;rw[rsum_succ,rsum_succ,rsum_zero,zero_add];dsimp only;rw[if_pos rfl,if_neg (by omega)];refine Eq.trans ?_ (finD hS hd ⟨j,hj⟩);have e2:rcode (u j)=l.getD j 0:=by
   rw[←e]
   match j,hj with
   | 0,_=>rfl
   | 1,_=>rfl
   | 2,_=>rfl
   | 3,_=>rfl
   | 4,_=>rfl
   | 5,_=>rfl
   | 6,_=>rfl
   | 7,_=>rfl
  show u j=rel S.toDesc (l.getD j 0)
  rw[←e2,rel_rcode]
 rcases h2 with ((e | e) | e) | e
 ·exact fin 0 0 al0 fin0 e
 ·exact fin 1 0 al1 fin1 e
 ·exact fin 0 1 al2 fin2 e
 ·exact fin 1 1 al3 fin3 e
theorem row19 {S F:FD} (hS:S.toDesc=D2)(hF:F.toDesc=E2_3)(r:R F.toDesc){i:Nat} (hi:i<2):Meets S F r 8 2 (gopM F [1,1,1] pts19) (alC S.toDesc i):=by
 have hq:∀ (l:List Nat),(∀ j:Fin 8,l.getD j.val 0<2)→∀ j,j<8→rcode (rel S.toDesc (l.getD j 0))=l.getD j 0:=fun l hl j hj=>rcode_rel (by rw[hS]; exact hl ⟨j,hj⟩)
 by_cases e:i=0
 ·subst e;exact (meets19 hS hF r (u:=alC S.toDesc 0) (l:=al1) fun j hj=>hq al1 (by decide) j hj).2 in1
 ·obtain rfl:i=1:=by omega
  exact (meets19 hS hF r (u:=alC S.toDesc 1) (l:=al2) fun j hj=>hq al2 (by decide) j hj).2 in2
theorem indep19 {S:FD} (hS:S.toDesc=D2):Indep 2 8 (alC S.toDesc):=fun c hc i hi=>by
 have h1:∀ n,n<2→n=0∨n=1:=fun n h=>by omega
 have e0:rel S.toDesc 0=0:=rcode_inj ((rcode_rel (qpos19 S.toDesc)).trans rcode_zero.symm);have e1:rel S.toDesc 1=1:=rcode_inj ((rcode_rel (by have:=S.toDesc.q2; omega)).trans rcode_one.symm);have a:=hc 2 (by omega);have b:=hc 3 (by omega);rw[rsum_succ,rsum_succ,rsum_zero,zero_add]at a b;rw[show alC S.toDesc 0 2=1 from e1,show alC S.toDesc 1 2=0 from e0,mul_one,mul_zero,add_zero]at a;rw[show alC S.toDesc 0 3=0 from e0,show alC S.toDesc 1 3=1 from e1,mul_one,mul_zero,zero_add]at b;rcases h1 i hi with e | e
 ·rw[e]; exact a
 ·rw[e]; exact b
theorem alv_k {S F:FD} (hS:S.toDesc=D2)(hF:F.toDesc=E2_3){r:R F.toDesc} {k:Nat} {C:Nat→Nat→R S.toDesc} (hcan:Canl S k 8 C)(hs:∀ u,Span k 8 C u↔Meets S F r 8 2 (gopM F [1,1,1] pts19) u):k=2:=by
 have h1:SameSpan k 2 8 C (alC S.toDesc):=⟨fun i hi=>span19 hS hF r _ ((hs _).1 (Span.row _ hi)),fun i hi=>(hs _).2 (row19 hS hF r hi)⟩;have h2:=(elS_uniq h1).1;rw[elS_rank (indep19 hS)]at h2;have h3:=hcan.1;unfold rkS at h3;omega
theorem der19 {D:Desc} (h:D=E2_3):(plI D (derI D [1,1,1]))=1:=by
 subst h;rw[derI_pl];refine Pl.ext' fun t=>?_
 rw[pl_D,pl_one]
 show nsm (t+1) (cfR E2_3 [1,1,1] (t+1))=if t=0 then 1 else 0
 match t with
 | 0=>exact rcode_inj (by decide +kernel)
 | 1=>exact rcode_inj (by decide +kernel)
 | t+2=>rw[cfR_out _ (by simp),nsm_zero_r,if_neg (by omega)]
theorem cop19 {F:FD} (hF:F.toDesc=E2_3):Cop (plI F.toDesc [1,1,1]) (plI F.toDesc (derI F.toDesc [1,1,1])):=by
 refine⟨0,1,?_⟩;rw[zero_mul,zero_add,one_mul];exact der19 hF
end
end Go.Proofs.YtjdoneanohhkmaaGreat
