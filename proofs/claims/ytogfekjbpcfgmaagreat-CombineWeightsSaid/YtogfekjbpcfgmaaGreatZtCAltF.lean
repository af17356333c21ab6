/- Plain: the words orthogonal to the rows of a reduced matrix (the dual space). No Go here. Plain law of layer 38: Gao's decoder, over coefficients. No Go here. Plain algebra: the ring of polynomials as coefficient functions, division, coprime polynomials. No Go here. Plain law of layer 19: the rational function of a word, and squarefree Goppa polynomials in characteristic 2. No Go here. Plain law of layer 19: words over a subfield, their images, coordinates and traces. No Go here. Boxes of several cells, as lists of values. Layer 19 of the program: a field with a field that it contains (fit). -/
import Derived.Test.YtogfekjbpcfgmaaGreatZtCP1
import Derived.Test.YtogfekjbpcfgmaaGreatZtCLA
import Derived.Test.YtogfekjbpcfgmaaGreatZtCP4
import Derived.Test.YtogfekjbpcfgmaaGreatZtCRowL
import Derived.Test.YtogfekjbpcfgmaaGreatZtCRG
import Derived.Test.YtogfekjbpcfgmaaGreatZtCHasC
import Derived.Test.YtogfekjbpcfgmaaGreatZtCDsM
import Derived.Test.YtogfekjbpcfgmaaGreatZtCBasL
import Derived.Test.YtogfekjbpcfgmaaGreatZtCIsB7
import Derived.Test.YtogfekjbpcfgmaaGreatZtCGpoA
import Derived.Test.YtogfekjbpcfgmaaGreatZtCPoR
import Derived.Test.YtogfekjbpcfgmaaGreatZtCEmbT
set_option linter.unusedVariables false
set_option linter.unusedSimpArgs false
namespace Cw
section
variable {F:Type} [CField F]
end
end Cw
namespace Cw
def lead (p:Nat→Nat):Nat→Nat→Int
 | 0,_=>-1
 | k+1,c=>if p k=c then (k:Int) else lead p k c
section
variable {F:Type} [CField F]
end
end Cw

namespace Cw
section
variable {R:Type} [CRing R]
theorem rsum_tail {n m:Nat} (h:n≤m){f:Nat→R} (hz:∀ i,n≤i→i<m→f i=0):rsum m f=rsum n f:=by
 obtain⟨d,rfl⟩:∃ d,m=n+d:=⟨m - n,by omega⟩;rw[rsum_split,rsum_eq_zero (n:=d) fun i hi=>hz (n+i) (by omega) (by omega),add_zero]
theorem rsum_rev:∀ (n:Nat) (f:Nat→R),rsum n f=rsum n fun i=>f (n - 1 - i)
 | 0,_=>rfl
 | n+1,f=>by
  rw[rsum_succ_left n (fun i=>f (n+1 - 1 - i)),rsum_succ,rsum_rev n f,add_c]
  congr 1
  exact rsum_congr fun i _=>by rw[show n+1 - 1 - (i+1)=n - 1 - i by omega]
def LtD (f:Nat→R)(n:Nat):Prop:=∀ t,n≤t→f t=0
theorem conv_comm (f g:Nat→R)(t:Nat):conv f g t=conv g f t:=by
 unfold conv
 rw[rsum_rev];exact rsum_congr fun i hi=>by rw[show t+1 - 1 - i=t - i by omega,show t - (t - i)=i by omega,mul_c]
end
section
variable {F:Type} [CField F]
end
end Cw

namespace Cw
section
variable {R:Type} [CRing R]
theorem conv_dbl (f g:Nat→R){t N:Nat} (h:t<N):conv f g t=rsum N fun i=>rsum N fun j=>if i+j=t then f i*g j else 0:=by
 unfold conv
 rw[rsum_tail (n:=t+1) (m:=N) (by omega) fun i h1 _=>rsum_eq_zero fun j _=>if_neg (by omega)];refine rsum_congr fun i hi=>?_
 rw[rsum_single (k:=t - i) (by omega) fun j _ hne=>if_neg (by omega),if_pos (by omega)]
theorem conv_tri (f g h:Nat→R)(t:Nat):conv (conv f g) h t=rsum (t+1) fun i=>rsum (t+1) fun j=>rsum (t+1) fun k=>if i+j+k=t then f i*g j*h k else 0:=by
 rw[conv_dbl (conv f g) h (Nat.lt_succ_self t)];have e1:∀ s,s<t+1→(rsum (t+1) fun k=>if s+k=t then conv f g s*h k else 0)=rsum (t+1) fun i=>rsum (t+1) fun j=>rsum (t+1) fun k=>if i+j=s then (if s+k=t then f i*g j*h k else 0) else 0:=fun s hs=>by
  have e2:∀ k,(if s+k=t then conv f g s*h k else 0)=rsum (t+1) fun i=>rsum (t+1) fun j=>if i+j=s then (if s+k=t then f i*g j*h k else 0) else 0:=fun k=>by
   by_cases e:s+k=t
   ·simp only[if_pos e];rw[conv_dbl f g hs,←rsum_mul_right];refine rsum_congr fun i _=>?_
    rw[←rsum_mul_right];refine rsum_congr fun j _=>?_
    by_cases e3:i+j=s
    ·rw[if_pos e3,if_pos e3]
    ·rw[if_neg e3,if_neg e3,zero_mul]
   ·simp only[if_neg e,ite_self];rw[rsum_eq_zero fun i _=>rsum_eq_zero fun j _=>rfl]
  rw[rsum_congr fun k _=>e2 k,rsum_swap];refine rsum_congr fun i _=>?_
  rw[rsum_swap]
 rw[rsum_congr e1,rsum_swap];refine rsum_congr fun i hi=>?_
 rw[rsum_swap];refine rsum_congr fun j hj=>?_
 rw[rsum_swap];refine rsum_congr fun k hk=>?_
 by_cases e:i+j<t+1
 ·rw[rsum_single (k:=i+j) e fun s _ hne=>if_neg (fun e2=>hne e2.symm),if_pos rfl]
 ·rw[if_neg (by omega),rsum_eq_zero fun s hs=>if_neg (by omega)]
theorem conv_assoc (f g h:Nat→R)(t:Nat):conv (conv f g) h t=conv f (conv g h) t:=by
 rw[conv_comm f,conv_tri,conv_tri];rw[rsum_congr fun i _=>rsum_swap (t+1) (t+1) fun j k=>if i+j+k=t then f i*g j*h k else 0];rw[rsum_swap];rw[rsum_congr fun k _=>rsum_swap (t+1) (t+1) fun i j=>if i+j+k=t then f i*g j*h k else 0];rw[rsum_swap];refine rsum_congr fun j _=>rsum_congr fun k _=>rsum_congr fun i _=>?_
 by_cases e:i+j+k=t
 ·rw[if_pos e,if_pos (by omega)]; ac_rfl
 ·rw[if_neg e,if_neg (by omega)]
theorem conv_addr (f g h:Nat→R)(t:Nat):conv f (fun s=>g s+h s) t=conv f g t+conv f h t:=by
 unfold conv
 rw[←rsum_add];exact rsum_congr fun i _=>mul_add _ _ _
structure Pl (R:Type) [CRing R] where
 c:Nat→R
 fin:∃ n,LtD c n
theorem Pl.ext' {a b:Pl R} (h:∀ t,a.c t=b.c t):a=b:=by
 obtain⟨f,hf⟩:=a;obtain⟨g,hg⟩:=b;have e:f=g:=funext h;subst e;rfl
instance:Add (Pl R):=⟨fun a b=>⟨fun t=>a.c t+b.c t,by
 obtain⟨n,hn⟩:=a.fin;obtain⟨m,hm⟩:=b.fin;exact⟨n+m,fun t ht=>by show a.c t+b.c t=0; rw[hn t (by omega),hm t (by omega),add_zero]⟩⟩⟩
instance:Mul (Pl R):=⟨fun a b=>⟨conv a.c b.c,by
 obtain⟨n,hn⟩:=a.fin;obtain⟨m,hm⟩:=b.fin;exact⟨n+m,fun t ht=>conv_high hn hm (by omega)⟩⟩⟩
instance:Neg (Pl R):=⟨fun a=>⟨fun t=>- a.c t,by
 obtain⟨n,hn⟩:=a.fin;exact⟨n,fun t ht=>by show -a.c t=0; rw[hn t ht,neg_zero]⟩⟩⟩
instance:Zero (Pl R):=⟨⟨fun _=>0,0,fun _ _=>rfl⟩⟩
instance:One (Pl R):=⟨⟨fun t=>if t=0 then 1 else 0,1,fun t ht=>if_neg (by omega)⟩⟩
instance:CRing (Pl R) where
 add_assoc' a b c:=Pl.ext' fun t=>add_a _ _ _
 add_comm' a b:=Pl.ext' fun t=>add_c _ _
 mul_assoc' a b c:=Pl.ext' fun t=>conv_assoc a.c b.c c.c t
 mul_comm' a b:=Pl.ext' fun t=>conv_comm a.c b.c t
 zero_add' a:=Pl.ext' fun t=>zero_add _
 neg_add' a:=Pl.ext' fun t=>neg_add _
 one_mul' a:=Pl.ext' fun t=>by
  show conv (fun t=>if t=0 then (1:R) else 0) a.c t=a.c t
  unfold conv
  rw[rsum_single (k:=0) (by omega) fun i _ hne=>by dsimp only; rw[if_neg hne,zero_mul]];dsimp only;rw[if_pos rfl,one_mul,Nat.sub_zero]
 mul_add' a b c:=Pl.ext' fun t=>conv_addr a.c b.c c.c t
def Pl.lin (x:R):Pl R:=⟨fun t=>if t=0 then -x else if t=1 then 1 else 0,2,fun t ht=>by dsimp only; rw[if_neg (by omega),if_neg (by omega)]⟩
end
section
variable {F:Type} [CField F]
open CField (inv)
end
end Cw

namespace Cw
section
variable {R:Type} [CRing R]
def hP:List (R×R)→Pl R
 | []=>1
 | (x,_) :: l=>Pl.lin x*hP l
end
section
variable {F:Type} [CField F]
open CField (inv)
end
end Cw

namespace Go.Proofs.YtogfekjbpcfgmaaGreat
open Go.RowKit Cw
open Cw.CField (inv)
section
variable {S F:FD} {r:R F.toDesc}
theorem char_two (hp:S.p=F.p):nsm S.p (1:R F.toDesc)=0:=by rw[hp]; exact char_R
theorem phi_onto (hp:S.p=F.p)(h0:muV S F r=0){y:R F.toDesc} (hy:InSub S.m y):∃ u:R S.toDesc,phi S F r u=y:=by
 refine Classical.byContradiction fun hno=>?_
 have hc:=char_two (S:=S) (F:=F) hp;have hq:S.q=F.p ^ S.m:=by rw[←hp]; rfl
 have h2:=S.toDesc.q2;have hfix:∀ x:R F.toDesc,InSub S.m x→pw x S.q=x:=fun x hx=>by
  have h3:pw x (F.p ^ S.m)=x:=hx;rw[←hq]at h3; exact h3
 have ha:∀ i,InSub S.m (if i<S.q then phi S F r (rel S.toDesc i) else y):=fun i=>by
  by_cases e:i<S.q
  ·rw[if_pos e]; exact phi_sub hp hc h0 _
  ·rw[if_neg e]; exact hy
 have key:=rsum_roots (n:=S.q+1) (f:=fun i=>if i=S.q then (1:R F.toDesc) else if i=1 then -1 else 0) (a:=fun i=>if i<S.q then phi S F r (rel S.toDesc i) else y)
  (fun i j hi hj e=>by
   by_cases g1:i<S.q
   ·by_cases g2:j<S.q
    ·rw[if_pos g1,if_pos g2]at e;have h3:=congrArg rcode (phi_inj hc h0 e);rw[rcode_rel g1,rcode_rel g2]at h3;exact h3
    ·rw[if_pos g1,if_neg g2]at e;exact absurd ⟨_,e⟩ hno
   ·by_cases g2:j<S.q
    ·rw[if_neg g1,if_pos g2]at e;exact absurd ⟨_,e.symm⟩ hno
    ·omega)
  (fun k _=>by
   have h3:=hfix _ (ha k);generalize (if k<S.q then phi S F r (rel S.toDesc k) else y)=x at h3 ⊢;rw[rsum_succ,if_pos rfl,one_mul,rsum_single (k:=1) (by omega) fun i hi hne=>by rw[if_neg (by omega),if_neg hne,zero_mul]];rw[if_neg (by omega),if_pos rfl,pw_one,neg_mul,one_mul,h3,neg_add]) (i:=S.q) (by omega)
 rw[if_pos rfl]at key;exact one_ne key
open Classical in
noncomputable def bk (S F:FD)(r:R F.toDesc)(y:R F.toDesc):R S.toDesc:=if h:∃ u,phi S F r u=y then Classical.choose h else 0
theorem bk_phi (hp:S.p=F.p)(h0:muV S F r=0)(u:R S.toDesc):bk S F r (phi S F r u)=u:=by
 have h:∃ u',phi S F r u'=phi S F r u:=⟨u,rfl⟩;unfold bk;rw[dif_pos h];exact phi_inj (char_two hp) h0 (Classical.choose_spec h)
theorem phi_bk (hp:S.p=F.p)(h0:muV S F r=0){y:R F.toDesc} (hy:InSub S.m y):phi S F r (bk S F r y)=y:=by
 have h:=phi_onto hp h0 hy;unfold bk;rw[dif_pos h];exact Classical.choose_spec h
theorem bk_out {y:R F.toDesc} (h:¬ ∃ u,phi S F r u=y):bk S F r y=0:=by unfold bk; rw[dif_neg h]
end
end Go.Proofs.YtogfekjbpcfgmaaGreat
namespace Cw
section
variable {F:Type} [CField F]
end
end Cw

namespace Go.Proofs.YtogfekjbpcfgmaaGreat
section
open Go.RowKit Cw

section
variable {w w1:World} {b B:Nat} {vs:List Value}
end
section
variable {w:World} {b:Nat}
end
theorem cell_al {w:World} {p:Addr} {v:Value} (h:w.cell? p=some v)(o:Obj):(w.alloc o).cell? p=some v:=by
 have hlt:p.block<w.heap.size:=by
  refine Classical.byContradiction fun hn=>?_
  unfold World.cell? at h;rw[Array.getElem?_eq_none (by omega)]at h
  cases h
 exact (((Below.refl w.heap.size w).alloc (Nat.le_refl _) o).cell hlt).trans h
end
section
open Go.RowKit Cw
attribute [local go_sem] Oper.semAt_some

def BkI (S F:FD)(r:R F.toDesc)(z:Int)(k:Nat)(L:List Int):Prop :=
 L.length=F.q∧∀ y,y<F.q→(∀ x,x<k→rcode (phi S F r (rel S.toDesc x))=y→L[y]?.getD 0=(x:Int))∧((∀ x,x<k→rcode (phi S F r (rel S.toDesc x))≠y)→L[y]?.getD 0=z)
noncomputable def backL (S F:FD)(r:R F.toDesc):List Int:=lst F.q fun y=>ci (bk S F r (rel F.toDesc y))
section
variable {S F:FD} {r:R F.toDesc} {z:Int} {k:Nat} {L:List Int}
theorem BkI.zero (S F:FD)(r:R F.toDesc)(z:Int):BkI S F r z 0 (List.replicate F.q z) :=
 ⟨List.length_replicate ..,fun y hy=>⟨fun x hx=>absurd hx (Nat.not_lt_zero _),fun _=>by rw[List.getElem?_replicate,if_pos hy]; rfl⟩⟩
theorem BkI.step (hp:S.p=F.p)(h0:muV S F r=0)(h:BkI S F r z k L)(hk:k<S.q):BkI S F r z (k+1) (L.set (rcode (phi S F r (rel S.toDesc k))) (k:Int)):=by
 obtain⟨h1,h2⟩:=h;refine⟨by rw[List.length_set,h1],fun y hy=>?_⟩;by_cases e:rcode (phi S F r (rel S.toDesc k))=y
 ·subst e;rw[List.getElem?_set_self (by omega)];refine⟨fun x hx e2=>?_,fun hn=>absurd rfl (hn k (Nat.lt_succ_self k))⟩;have h3:=congrArg rcode (phi_inj (char_two hp) h0 (rcode_inj e2));rw[rcode_rel (by omega),rcode_rel hk]at h3;subst h3;rfl
 ·rw[List.getElem?_set_ne e];obtain⟨g1,g2⟩:=h2 y hy;refine⟨fun x hx e2=>?_,fun hn=>g2 fun x hx=>hn x (by omega)⟩;by_cases e3:x=k
  ·subst e3; exact absurd e2 e
  ·exact g1 x (by omega) e2
theorem BkI.done (hp:S.p=F.p)(h0:muV S F r=0)(h:BkI S F r 0 S.q L):L=backL S F r:=by
 obtain⟨h1,h2⟩:=h;apply List.ext_getElem
 ·rw[h1]; exact (lst_length _ _).symm
 ·intro y hy1 hy2;have hy:y<F.q:=by omega
  obtain⟨g1,g2⟩:=h2 y hy;have e1:(backL S F r)[y]=ci (bk S F r (rel F.toDesc y)):=by
   have h3:(backL S F r)[y]?.getD 0=ci (bk S F r (rel F.toDesc y)):=lst_get _ hy;rw[List.getElem?_eq_getElem hy2]at h3; exact h3
  rw[e1];rw[List.getElem?_eq_getElem hy1]at g1 g2;by_cases e:∃ u,phi S F r u=rel F.toDesc y
  ·obtain⟨u,hu⟩:=e;rw[←hu,bk_phi hp h0];refine g1 (rcode u) (rcode_lt u) ?_;rw[rel_rcode,hu,rcode_rel hy]
  ·rw[bk_out e,ci_zero];refine g2 fun x _ e2=>e ⟨rel S.toDesc x,?_⟩
   rw[←e2,rel_rcode]
end
end
end Go.Proofs.YtogfekjbpcfgmaaGreat
