/- The program's check of a matrix, for any rows: entries, check. The error of a code, as a number: what both Check functions answer. No Go here. -/
import Derived.Test.YtogfekjbpcfgmaaGreatZtXMP
import Derived.Test.YtogfekjbpcfgmaaGreatZtXHasA
import Derived.Test.YtogfekjbpcfgmaaGreatZtXCodB
import Derived.Test.YtogfekjbpcfgmaaGreatZtXHasC
import Derived.Test.YtogfekjbpcfgmaaGreatZtXMatW
namespace Go.Proofs.YtogfekjbpcfgmaaGreat
section
open Go.RowKit Cw
attribute [local go_sem] Oper.semAt_some

def ShpOk (N:Int)(n:Nat)(rows:Nat→List Int):Prop:=0≤N∧N≤256∧n≤256∧∀ i,i<n→((rows i).length:Int)=N
def ElsOk (D:Desc)(n:Nat)(rows:Nat→List Int):Prop:=∀ i,i<n→elB D (rows i)=true
open Classical in
noncomputable def mErr (D:Desc)(N:Int)(n:Nat)(rows:Nat→List Int):Int:=if ShpOk N n rows then (if ElsOk D n rows then 0 else 2) else 3
theorem mErr_shape {D:Desc} {N:Int} {n:Nat} {rows:Nat→List Int} (h:¬ ShpOk N n rows):mErr D N n rows=3:=if_neg h
theorem mErr_els {D:Desc} {N:Int} {n:Nat} {rows:Nat→List Int} (h:ShpOk N n rows)(h2:¬ ElsOk D n rows):mErr D N n rows=2:=by unfold mErr; rw[if_pos h,if_neg h2]
theorem mErr_ok {D:Desc} {N:Int} {n:Nat} {rows:Nat→List Int} (h:ShpOk N n rows)(h2:ElsOk D n rows):mErr D N n rows=0:=by unfold mErr; rw[if_pos h,if_pos h2]

set_option maxHeartbeats 1000000 in
theorem gEntries_any (F:FD)(l:List Int)(A1:Option Addr)(c1 gf:Nat)(w:World)(hg:GF w w.heap.size gf F)(hr1:Rd w w.heap.size A1 l)(hl:l.length≤1000000) :
  Calls Tryz.prog 155 #[.pointer (some ⟨gf,0,none⟩),.slice A1 l.length c1] w fun e w'=>e=.returned (.int .i64 (elE F.toDesc l))∧w=w':=by
 have hI:=fun x=>gIs_any F x gf w hg
 go_enter Tryz.func155,Tryz.ntmps155;go_wp2_with (fail);go_loop [9,6] (fun i _=>∃ k:Nat,k≤l.length∧i=.int .i64 k∧∀ j,j<k→0≤l[j]?.getD 0∧l[j]?.getD 0<(F.q:Int)) (fun i _=>l.length - (intOf i).toNat)
 case atStart=>exact⟨0,by omega,rfl,fun j hj=>absurd hj (Nat.not_lt_zero _)⟩
 case round =>
  obtain⟨k,hk,rfl,hin⟩:=hrel;by_cases hlt:k<l.length
  ·obtain⟨b,o,rfl,-,hc⟩:=hr1.at_ hlt;obtain⟨y,hy⟩:∃ y,y=l[k]?.getD 0:=⟨_,rfl⟩;rw[←hy]at hc;have hI2:=hI y;by_cases hyi:0≤y∧y<(F.q:Int)
   ·rw[decide_eq_true hyi]at hI2;replace hI2:=Lib.hid hI2;have hin2:Hid (∀ j,j<k+1→0≤l[j]?.getD 0∧l[j]?.getD 0<(F.q:Int)):=fun j hj=>by
     by_cases e:j=k
     ·rw[e,←hy]; exact hyi
     ·exact hin j (by omega)
    clear hin hyi hy hI;go_wp2_with (fail);(with_reducible refine hI2.out.mono ?_);rintro e w1 ⟨rfl,rfl⟩;go_wp2_with (fail);go_round
    case rel=>exact⟨k+1,by omega,by go_num,hin2.out⟩
    case measure=>simp[intOf]; omega
   ·rw[decide_eq_false hyi]at hI2;replace hI2:=Lib.hid hI2;have hel:elB F.toDesc l=false:=by
     cases h:elB F.toDesc l with
     | false=>rfl
     | true=>exact absurd (by rw[hy]; exact elB_iff.1 h k hlt) hyi
    replace hel:=Lib.hid hel;clear hin hyi hy hI;go_wp2_with (fail);(with_reducible refine hI2.out.mono ?_);rintro e w1 ⟨rfl,rfl⟩;go_wp2_with (fail);go_ret;exact⟨by rw[show elE F.toDesc l=2 from if_pos hel.out]; rfl,rfl⟩
  ·obtain rfl:k=l.length:=by omega
   have hel:Hid (elB F.toDesc l=true):=elB_iff.2 hin;clear hin hI;go_wp2_with (fail);go_ret;exact⟨by rw[show elE F.toDesc l=0 from if_neg (by rw[hel.out]; simp)]; rfl,rfl⟩

set_option maxHeartbeats 2000000 in
theorem gCheckM_any (F:FD)(N:Int)(n:Nat)(rows:Nat→List Int)(Ar:Option Addr)(cr gf:Nat)(w:World)(hg:GF w w.heap.size gf F)(hrm:RdM w w.heap.size Ar n rows)(hn:n≤1000000)(hl:∀ i,i<n→(rows i).length≤1000000) :
  Calls Tryz.prog 200 #[.pointer (some ⟨gf,0,none⟩),.agg #[.int .i64 N,.slice Ar n cr]] w fun e w'=>e=.returned (.int .i64 (mErr F.toDesc N n rows))∧Below w.heap.size w w':=by
 obtain⟨Z,hZ⟩:∃ Z,Z=w.alloc (.cells #[.int .i64 N,.slice Ar n cr] 120):=⟨_,rfl⟩;have hB:Below w.heap.size w Z:=by rw[hZ]; exact (Below.refl _ _).alloc (Nat.le_refl _) _
 have z0:Z.cell? ⟨w.heap.size,0,none⟩=some (.int .i64 N):=by rw[hZ]; simp[go_sem]
 have z1:Z.cell? ⟨w.heap.size,1,none⟩=some (.slice Ar n cr):=by rw[hZ]; simp[go_sem]
 have hrz:=(hrm.below hB).more hB.size;have hgz:=(hg.below hB).more hB.size;have hE:=fun i A1 c1 h hi=>gEntries_any F (rows i) A1 c1 gf Z hgz h (hl i hi)
 obtain⟨E,hE0⟩:∃ E,E=mErr F.toDesc N n rows:=⟨_,rfl⟩;rw[←hE0];replace hE0:=Lib.hid hE0;replace hZ:=Lib.hid hZ;by_cases b1:N<0
 ·have he3:E=3:=by rw[hE0.out]; exact mErr_shape fun h=>absurd h.1 (by omega)
  replace he3:=Lib.hid he3;have hd:decide (N<0)=true:=decide_eq_true b1;clear hE hl b1;go_enter Tryz.func200,Tryz.ntmps200;go_wp2_with (fail);go_ret;rw[←hZ.out];exact⟨by rw[he3.out]; rfl,hB⟩
 by_cases b2:(256:Int)<N
 ·have he3:E=3:=by rw[hE0.out]; exact mErr_shape fun h=>absurd h.2.1 (by omega)
  replace he3:=Lib.hid he3;clear hE hl;go_enter Tryz.func200,Tryz.ntmps200;go_wp2_with (fail);go_ret;rw[←hZ.out];exact⟨by rw[he3.out]; rfl,hB⟩
 by_cases b3:(256:Int)<(n:Int)
 ·have he3:E=3:=by rw[hE0.out]; exact mErr_shape fun h=>absurd h.2.2.1 (by omega)
  replace he3:=Lib.hid he3;clear hE hl;go_enter Tryz.func200,Tryz.ntmps200;go_wp2_with (fail);go_ret;rw[←hZ.out];exact⟨by rw[he3.out]; rfl,hB⟩
 go_enter Tryz.func200,Tryz.ntmps200;go_wp2_with (fail);rw[←hZ.out];go_loop [27,6] (fun i _=>∃ k:Nat,k≤n∧i=.int .i64 k∧∀ j,j<k→((rows j).length:Int)=N) (fun i _=>n - (intOf i).toNat)
 case atStart=>exact⟨0,by omega,rfl,fun j hj=>absurd hj (Nat.not_lt_zero _)⟩
 case round =>
  obtain⟨k,hk,rfl,hin⟩:=hrel;by_cases hlt:k<n
  ·obtain⟨b,o,Ak,ck,rfl,hb,hc,hrk,-,-⟩:=hrz.at_ hlt;by_cases hq:((rows k).length:Int)=N
   ·have hmm:(((rows k).length:Int) !=N)=false:=by rw[bne_eq_false_iff_eq]; exact hq
    have hin2:Hid (∀ j,j<k+1→((rows j).length:Int)=N):=fun j hj=>by
     by_cases e:j=k
     ·rw[e]; exact hq
     ·exact hin j (by omega)
    clear hin hq hE;go_wp2_with (fail);go_round
    case rel=>exact⟨k+1,by omega,by go_num,hin2.out⟩
    case measure=>simp[intOf]; omega
   ·have hmm:(((rows k).length:Int) !=N)=true:=by rw[bne_iff_ne]; exact hq
    have he3:E=3:=by rw[hE0.out]; exact mErr_shape fun h=>hq (h.2.2.2 k hlt)
    replace he3:=Lib.hid he3;clear hin hq hE;go_wp2_with (fail);go_ret;exact⟨by rw[he3.out]; rfl,hB⟩
  ·obtain rfl:k=n:=by omega
   have hsh:Hid (ShpOk N k rows):=⟨by omega,by omega,by omega,hin⟩;clear hin;go_wp2_with (fail);go_loop [40,8,9] (fun i _ _=>∃ k':Nat,k'≤k∧i=.int .i64 k'∧∀ j,j<k'→elB F.toDesc (rows j)=true) (fun i _ _=>k - (intOf i).toNat)
   case atStart=>exact⟨0,by omega,rfl,fun j hj=>absurd hj (Nat.not_lt_zero _)⟩
   case round =>
    obtain⟨k',hk',rfl,hin⟩:=hrel;by_cases hlt':k'<k
    ·obtain⟨b,o,Ak,ck,rfl,hb,hc,hrk,-,-⟩:=hrz.at_ hlt';have hE2:=hE k' Ak ck hrk hlt';by_cases hel:elB F.toDesc (rows k')=true
     ·rw[show elE F.toDesc (rows k')=0 from if_neg (by rw[hel]; simp)]at hE2;replace hE2:=Lib.hid hE2;have hin2:Hid (∀ j,j<k'+1→elB F.toDesc (rows j)=true):=fun j hj=>by
       by_cases e:j=k'
       ·rw[e]; exact hel
       ·exact hin j (by omega)
      clear hin hel hE;go_wp2_with (fail);(with_reducible refine hE2.out.mono ?_);rintro e w1 ⟨rfl,rfl⟩;go_wp2_with (fail);go_round
      case rel=>exact⟨k'+1,by omega,by go_num,hin2.out⟩
      case measure=>simp[intOf]; omega
     ·rw[show elE F.toDesc (rows k')=2 from if_pos (by simpa using hel)]at hE2;replace hE2:=Lib.hid hE2;have he2:E=2:=by rw[hE0.out]; exact mErr_els hsh.out fun h=>hel (h k' hlt')
      replace he2:=Lib.hid he2;clear hin hel hE;go_wp2_with (fail);(with_reducible refine hE2.out.mono ?_);rintro e w1 ⟨rfl,rfl⟩;go_wp2_with (fail);go_ret;exact⟨by rw[he2.out]; rfl,hB⟩
    ·obtain rfl:k'=k:=by omega
     have he0:E=0:=by rw[hE0.out]; exact mErr_ok hsh.out hin
     replace he0:=Lib.hid he0;clear hin hE;go_wp2_with (fail);go_ret;exact⟨by rw[he0.out]; rfl,hB⟩
end
section
open Go.RowKit Cw

theorem desc_ext {D D':Desc} (e1:D.p=D'.p)(e2:D.m=D'.m)(e3:D.mod=D'.mod):D=D':=by
 obtain⟨p,m,mod,a1,a2,a3,a4,a5,a6⟩:=D;obtain⟨p',m',mod',b1,b2,b3,b4,b5,b6⟩:=D';dsimp at e1 e2 e3;subst e1 e2 e3;rfl
theorem desc_eq {D D':Desc} {P M:Int} {ml:List Int} (h1:P=D.p)(h2:M=D.m)(h3:ml=modL D)(g1:P=D'.p)(g2:M=D'.m)(g3:ml=modL D'):D=D' :=
 desc_ext (by omega) (by omega) (modL_inj (h3.symm.trans g3))
theorem good_FD {D:Desc} (h:Good D.p D.m (modL D)):∃ F:FD,F.toDesc=D:=by
 obtain⟨u,hu⟩:=gen_of_good h;exact⟨mkFD D u hu,rfl⟩
theorem rowL_inj {D:Desc} {m:Nat} {f g:Nat→R D} (h:rowL D m f=rowL D m g){j:Nat} (hj:j<m):f j=g j:=by
 have h1:=rowL_get D f hj;rw[h,rowL_get D g hj]at h1;rw[←eli_ci (f j),←eli_ci (g j),h1]
theorem canl_two {F F1:FD} (h:F1.toDesc=F.toDesc){n m:Nat} {M:Nat→Nat→R F.toDesc} {M1:Nat→Nat→R F1.toDesc} (hr:∀ i,i<n→rowsL F1.toDesc m M1 i=rowsL F.toDesc m M i)(hc:Canl F1 n m M1):Canl F n m M:=by
 obtain⟨M2,hM2,hE⟩:=elS_two F F1 h M;have hag:∀ i,i<n→∀ j,j<m→M1 i j=M2 i j:=fun i hi j hj=>rowL_inj (D:=F1.toDesc) (by
  have:=hr i hi;rw[←hM2 m]at this;exact this) hj
 have hss:SameSpan n n m M1 M2:=⟨fun t ht=>(Span.row M2 ht).congr fun j hj=>hag t ht j hj,fun t ht=>(Span.row M1 ht).congr fun j hj=>(hag t ht j hj).symm⟩;obtain⟨u1,u2⟩:=elS_uniq hss;obtain⟨hk,hrow⟩:=hc;unfold rkS at hk;have hk2:(elS n M m).2.length=n:=by rw[←(hE n m m).2,←u1,hk]
 refine⟨hk2,fun i hi=>?_⟩;rw[←(hE n m m).1,←hr i hi,←hrow i hi];unfold rowsL rowL;exact lst_congr fun j hj=>congrArg ci ((u2 i (by rw[hk]; exact hi)).2 j hj).symm
theorem canl_iff {F:FD} {n m:Nat} {M:Nat→Nat→R F.toDesc}:Canl F n m M↔eqR (rkS F n m M) n (rowsL F.toDesc m (elS n M m).1) (rowsL F.toDesc m M)=true:=by
 rw[eqR_iff];constructor
 ·intro h; exact⟨h.1,fun i hi=>h.2 i (by rw[←h.1]; exact hi)⟩
 ·intro h; exact⟨h.1,fun i hi=>h.2 i (by rw[h.1]; exact hi)⟩
def CodeOk (P M N:Int)(ml:List Int)(n:Nat)(rows:Nat→List Int):Prop :=
 ∃ F:FD,∃ m:Nat,∃ A:Nat→Nat→R F.toDesc,P=F.p∧M=F.m∧ml=modL F.toDesc∧N=m∧(∀ i,i<n→rows i=rowsL F.toDesc m A i)∧Canl F n m A
theorem codeOk_iff {P M N:Int} {ml:List Int} {n:Nat} {rows:Nat→List Int} {F:FD} {m:Nat} {A:Nat→Nat→R F.toDesc} (hP:P=F.p)(hM:M=F.m)(hl:ml=modL F.toDesc)(hN:N=m)(hr:∀ i,i<n→rows i=rowsL F.toDesc m A i) :
  CodeOk P M N ml n rows↔Canl F n m A:=by
 constructor
 ·rintro⟨F1,m1,A1,g1,g2,g3,g4,g5,g6⟩;obtain rfl:m1=m:=by omega
  exact canl_two (desc_eq g1 g2 g3 hP hM hl) (fun i hi=>(g5 i hi).symm.trans (hr i hi)) g6
 ·intro h; exact⟨F,m,A,hP,hM,hl,hN,hr,h⟩
open Classical in
noncomputable def cErr (P M N:Int)(ml:List Int)(n:Nat)(rows:Nat→List Int):Int :=
 if ¬ Good P M ml then 1 else if N<1∨64<N then 4 else if ¬ ShpOk N n rows then 3 else if ¬ (∃ D:Desc,P=D.p∧M=D.m∧ml=modL D∧ElsOk D n rows) then 2 else if ¬ CodeOk P M N ml n rows then 5 else 0
section
variable {P M N:Int} {ml:List Int} {n:Nat} {rows:Nat→List Int}
theorem cErr_bad (h:¬ Good P M ml):cErr P M N ml n rows=1:=if_pos h
theorem cErr_len (h:Good P M ml)(h2:N<1∨64<N):cErr P M N ml n rows=4:=by unfold cErr; rw[if_neg (not_not_intro h),if_pos h2]
theorem cErr_m {D:Desc} (h:Good P M ml)(h1:P=D.p)(h2:M=D.m)(h3:ml=modL D)(h4:¬ (N<1∨64<N))(h5:mErr D N n rows≠0):cErr P M N ml n rows=mErr D N n rows:=by
 unfold cErr;rw[if_neg (not_not_intro h),if_neg h4];by_cases hs:ShpOk N n rows
 ·rw[if_neg (not_not_intro hs)];by_cases he:ElsOk D n rows
  ·exact absurd (mErr_ok hs he) h5
  ·rw[mErr_els hs he,if_pos];rintro⟨D',g1,g2,g3,g4⟩;rw[desc_eq g1 g2 g3 h1 h2 h3]at g4;exact he g4
 ·rw[if_pos hs,mErr_shape hs]
theorem cErr_form {D:Desc} (h:Good P M ml)(h1:P=D.p)(h2:M=D.m)(h3:ml=modL D)(h4:¬ (N<1∨64<N))(hs:ShpOk N n rows)(he:ElsOk D n rows)(hc:¬ CodeOk P M N ml n rows):cErr P M N ml n rows=5:=by
 unfold cErr;rw[if_neg (not_not_intro h),if_neg h4,if_neg (not_not_intro hs),if_neg (not_not_intro ⟨D,h1,h2,h3,he⟩),if_pos hc]
theorem cErr_ok {D:Desc} (h:Good P M ml)(h1:P=D.p)(h2:M=D.m)(h3:ml=modL D)(h4:¬ (N<1∨64<N))(hs:ShpOk N n rows)(he:ElsOk D n rows)(hc:CodeOk P M N ml n rows):cErr P M N ml n rows=0:=by
 unfold cErr;rw[if_neg (not_not_intro h),if_neg h4,if_neg (not_not_intro hs),if_neg (not_not_intro ⟨D,h1,h2,h3,he⟩),if_neg (not_not_intro hc)]
theorem mErr_zero {D:Desc} (h:mErr D N n rows=0):ShpOk N n rows∧ElsOk D n rows:=by
 by_cases hs:ShpOk N n rows
 ·by_cases he:ElsOk D n rows
  ·exact⟨hs,he⟩
  ·rw[mErr_els hs he]at h; cases h
 ·rw[mErr_shape hs]at h; cases h
def entM (D:Desc)(rows:Nat→List Int):Nat→Nat→R D:=fun i j=>eli D ((rows i)[j]?.getD 0)
theorem entM_rows {D:Desc} {m:Nat} (hs:ShpOk (m:Int) n rows)(he:ElsOk D n rows):∀ i,i<n→rows i=rowsL D m (entM D rows) i:=fun i hi=>by
 have h1:=list_rowL (he i hi);have h2:=hs.2.2.2 i hi;have h3:(rows i).length=m:=by omega
 rw[h3]at h1;exact h1
structure VC (P M N:Int) (ml:List Int) (n:Nat) (rows:Nat→List Int) (F:FD) (m:Nat) (A:Nat→Nat→R F.toDesc):Prop where
 hP:P=F.p
 hM:M=F.m
 hl:ml=modL F.toDesc
 good:Good F.p F.m (modL F.toDesc)
 hN:N=m
 m1:1≤m
 m64:m≤64
 hr:∀ i,i<n→rows i=rowsL F.toDesc m A i
 can:Canl F n m A
theorem VC.le {F:FD} {m:Nat} {A:Nat→Nat→R F.toDesc} (h:VC P M N ml n rows F m A):n≤m:=by
 have h1:=(elS_le n A m).2;have h2:=h.can.1;unfold rkS at h2;omega
theorem cErr_zero (h:cErr P M N ml n rows=0):∃ F:FD,∃ m:Nat,∃ A:Nat→Nat→R F.toDesc,VC P M N ml n rows F m A:=by
 unfold cErr at h;by_cases hg:Good P M ml
 ·rw[if_neg (not_not_intro hg)]at h;by_cases h4:N<1∨64<N
  ·rw[if_pos h4]at h; cases h
  rw[if_neg h4]at h;by_cases hs:ShpOk N n rows
  ·rw[if_neg (not_not_intro hs)]at h;by_cases he:∃ D:Desc,P=D.p∧M=D.m∧ml=modL D∧ElsOk D n rows
   ·rw[if_neg (not_not_intro he)]at h;by_cases hc:CodeOk P M N ml n rows
    ·obtain⟨F,m,A,g1,g2,g3,g4,g5,g6⟩:=hc;exact⟨F,m,A,g1,g2,g3,by rw[←g1,←g2,←g3]; exact hg,g4,by omega,by omega,g5,g6⟩
    ·rw[if_pos hc]at h; cases h
   ·rw[if_pos he]at h; cases h
  ·rw[if_pos hs]at h; cases h
 ·rw[if_pos hg]at h; cases h
theorem VC.to {F F1:FD} {m:Nat} {A:Nat→Nat→R F.toDesc} (h:VC P M N ml n rows F m A)(h1:F.toDesc=F1.toDesc):∃ A1:Nat→Nat→R F1.toDesc,VC P M N ml n rows F1 m A1:=by
 obtain⟨A1,hA,-⟩:=elS_two F F1 h1.symm A;have hr:∀ i,i<n→rows i=rowsL F1.toDesc m A1 i:=fun i hi=>by rw[hA]; exact h.hr i hi
 exact⟨A1,by rw[h.hP,h1],by rw[h.hM,h1],by rw[h.hl,h1],by rw[←h1]; exact h.good,h.hN,h.m1,h.m64,hr,canl_two h1 (fun i _=>by rw[hA]) h.can⟩
end
end
end Go.Proofs.YtogfekjbpcfgmaaGreat
