/- Order and the program's Eval. The program's inner product and digits. -/
import Derived.Test.YtogfekjbpcfgmaaGreatZtCP1
import Derived.Test.YtogfekjbpcfgmaaGreatZtCGA
import Derived.Test.YtogfekjbpcfgmaaGreatZtCRG
namespace Go.Proofs.YtogfekjbpcfgmaaGreat
section
open Go.RowKit Cw

def Dis (v1 v2:Value):Prop:=∀ k,v1.ownBlock=some k→v2.ownBlock≠some k
theorem Dis.symm {v1 v2:Value} (h:Dis v1 v2):Dis v2 v1:=fun k h1 h2=>h k h2 h1
theorem Dis.step {v1 v2 u:Value} {B N:Nat} (h:Dis v1 v2)(hl:∀ k,v2.ownBlock=some k→B≤k∧k<N)(hv:u.ownBlock=v1.ownBlock∨∀ k,u.ownBlock=some k→N≤k):Dis u v2:=fun k h1 h2=>by
 rcases hv with e | e
 ·exact h k (e ▸ h1) h2
 ·have:=e k h1; have:=(hl k h2).2; omega
theorem Dis.ne {v1 v2:Value} (h:Dis v1 v2):v1.ownBlock=none∨v1.ownBlock≠v2.ownBlock:=by
 cases e:v1.ownBlock with
 | none=>exact .inl rfl
 | some k=>exact .inr fun e2=>h k e e2.symm
theorem Own.base {w:World} {B B':Nat} {v:Value} {l:List Int} (h:Own w B v l)(hB:B'≤B):Own w B' v l:=by
 refine⟨h.1,?_⟩;rcases h.2 with hn | ⟨g,cap,cur,rfl,hb,rest⟩
 ·exact .inl hn
 ·exact .inr ⟨g,cap,cur,rfl,Nat.le_trans hB hb,rest⟩
theorem Own.cell0 {w:World} {B b o n c k:Nat} {l:List Int} (h:Own w B (.slice (some ⟨b,o,none⟩) n c) l)(hk:k<l.length):w.cell? ⟨b,o+k,none⟩=some (.int .i64 (l[k]?.getD 0)):=by
 obtain⟨A',c',e,-,hr,-⟩:=h.form
 cases e
 obtain⟨b',o',eA,-,hc⟩:=hr.at_ hk
 cases eA
 exact hc

set_option maxHeartbeats 400000 in
theorem gOrder_any (D:FD)(g:Nat)(w:World)(hg:GF w w.heap.size g D) :
  Calls Tryz.prog 114 #[.pointer (some ⟨g,0,none⟩)] w fun e w'=>e=.returned (.int .i64 D.q)∧w=w':=by
 have c3:=hg.c3;clear hg;go_enter Tryz.func114,Tryz.ntmps114;go_wp2_with (fail);go_ret;exact⟨rfl,rfl⟩

def pevI (D:Desc)[CRing (R D)] (l:List Int)(u:R D):R D:=rsum l.length fun i=>eli D (l[i]?.getD 0)*pw u i
def horner (D:Desc)(l:List Int)(u:R D):Nat→R D
 | 0=>0
 | t+1=>horner D l u t*u+eli D (l[l.length - (t+1)]?.getD 0)
theorem horner_eq (D:Desc)(l:List Int)(u:R D):∀ t,t≤l.length→horner D l u t=rsum t (fun i=>eli D (l[l.length - t+i]?.getD 0)*pw u i)
 | 0,_=>rfl
 | t+1,h=>by
  show horner D l u t*u+_=_
  rw[horner_eq D l u t (by omega),rsum_succ_left,Nat.add_zero,pw_zero,mul_one,add_c,←rsum_mul_right]
  congr 1
  refine rsum_congr fun i hi=>?_
  rw[show l.length - (t+1)+(i+1)=l.length - t+i by omega,mul_a];rfl
theorem horner_full (D:Desc)(l:List Int)(u:R D):horner D l u l.length=pevI D l u:=by
 rw[horner_eq D l u _ (Nat.le_refl _),Nat.sub_self];exact rsum_congr fun i _=>by rw[Nat.zero_add]

set_option maxHeartbeats 1000000 in
theorem pEval_any (D:FD)(l:List Int)(x:Int)(A:Option Addr)(c g:Nat)(w:World)(hg:GF w w.heap.size g D)(hr:Rd w w.heap.size A l)(hl:l.length≤maxLen) :
  Calls Tryz.prog 180 #[.pointer (some ⟨g,0,none⟩),.slice A l.length c,.int .i64 x] w fun e w'=>e=.returned (.int .i64 (ci (pevI D.toDesc l (eli D.toDesc x))))∧Below w.heap.size w w':=by
 unfold maxLen at hl;have hM:=fun y W hg=>Lib.hid (gMul_any D y x g W hg)
 have hA:=fun y z W hg=>Lib.hid (gAdd_any D y z g W hg)
 have hfin:=Lib.hid (horner_full D.toDesc l (eli D.toDesc x));go_enter Tryz.func180,Tryz.ntmps180;go_wp2_with (fail);go_loopw [7,8] (fun y i wr=>∃ t:Nat,t≤l.length∧i=.int .i64 ((l.length:Int) - 1 - t)∧y=.int .i64 (ci (horner D.toDesc l (eli D.toDesc x) t))∧Below w.heap.size w wr) (fun _ i _=>(intOf i+1).toNat)
 case atStart=>exact⟨0,by omega,by go_num,by show _=Value.int .i64 (ci (0:R D.toDesc)); rw[ci_zero],Below.refl _ _⟩
 case round =>
  obtain⟨t,ht,rfl,rfl,hbw⟩:=hrel;by_cases hlt:t<l.length
  ·have hge:decide ((0:Int)≤(l.length:Int) - 1 - t)=true:=by simp; omega
   obtain⟨k,hk⟩:∃ k:Nat,k=l.length - (t+1):=⟨_,rfl⟩;have hki:(l.length:Int) - 1 - t=(k:Int):=by omega
   rw[hki];have hkl:k<l.length:=by omega
   have hk0:(0:Int)≤(k:Int):=by omega
   have hk1:(k:Int)<(l.length:Int):=by omega
   obtain⟨b,o,rfl,hb,hc⟩:=hr.at_ hkl;have hc2:=(hbw.cell (p:=⟨b,o+k,none⟩) hb).trans hc;have hs:horner D.toDesc l (eli D.toDesc x) (t+1)=horner D.toDesc l (eli D.toDesc x) t*eli D.toDesc x+eli D.toDesc (l[k]?.getD 0):=by rw[hk]; rfl
   obtain⟨y,hy⟩:∃ y,y=l[k]?.getD 0:=⟨_,rfl⟩;rw[←hy]at hc2 hs;have hM2:=fun W hg=>(hM (ci (horner D.toDesc l (eli D.toDesc x) t)) W hg).out
   rw[eli_ci]at hM2;replace hM2:=fun W hg=>Lib.hid (hM2 W hg)
   have hA2:=fun W hg=>(hA (ci (horner D.toDesc l (eli D.toDesc x) t*eli D.toDesc x)) y W hg).out
   rw[eli_ci,←hs]at hA2;replace hA2:=fun W hg=>Lib.hid (hA2 W hg)
   have hgr:=(hg.below hbw).more hbw.size;have hcc:=Lib.hid hc2;replace hki:=Lib.hid hki;have hkt:k+t+1=l.length:=by omega
   replace hkt:=Lib.hid hkt;clear hc hs hy hge hk;go_wp2_with (fail);go_region_held3 (fun w'=>w'.cell? ⟨b,o+k,none⟩=some (.int .i64 y)) (first | exact hcc.out | exact hcc1.out | exact hcc2.out)
    (first
     | (go_at_call 90; (with_reducible refine (hM2 _ hgr.drew).out.mono ?_); rintro e w1 ⟨rfl,hb1⟩; have hbt1:=(hbw.drew).trans (hb1.mono hbw.size); have hcc1:=Lib.hid ((hb1.cell (p:=⟨b,o+k,none⟩) (Nat.lt_of_lt_of_le hb hbw.size)).trans hcc.out); have hg1:=(hg.below hbt1).more hbt1.size)
     | (go_at_call 91; (with_reducible refine (hA2 _ hg1).out.mono ?_); rintro e w2 ⟨rfl,hb2⟩; have hbt2:=hbt1.trans (hb2.mono hbt1.size); have hcc2:=Lib.hid ((hb2.cell (p:=⟨b,o+k,none⟩) (Nat.lt_of_lt_of_le hb hbt1.size)).trans hcc1.out)))
   go_wp2_with (fail);go_roundw
   case rel=>exact⟨t+1,by omega,by rw[←hki.out]; go_num,rfl,hbt2⟩
   case measure=>rw[←hki.out]; simp[intOf]; omega
  ·obtain rfl:t=l.length:=by omega
   have hge:decide ((0:Int)≤(l.length:Int) - 1 - (l.length:Int))=false:=by simp; omega
   have hki:(l.length:Int) - 1 - (l.length:Int)=-1:=by omega
   rw[hki];clear hge;go_wp2_with (fail);go_ret;exact⟨ret_int (by rw[hfin.out]),hbw⟩
end
section
open Go.RowKit Cw
attribute [local go_sem] Oper.semAt_some

theorem keepc2 {B b1 o1 b2 o2:Nat} {W w1:World} {v0 v1:Value} (hb:Below B W w1)(h1:b1<B)(h2:b2<B)(h:W.cell? ⟨b1,o1,none⟩=some v0∧W.cell? ⟨b2,o2,none⟩=some v1) :
  w1.cell? ⟨b1,o1,none⟩=some v0∧w1.cell? ⟨b2,o2,none⟩=some v1 :=
 ⟨(hb.cell (p:=⟨b1,o1,none⟩) h1).trans h.1,(hb.cell (p:=⟨b2,o2,none⟩) h2).trans h.2⟩

set_option maxHeartbeats 1000000 in
theorem gDot_any (D:FD)(a b:List Int)(n:Nat)(ha:a.length=n)(hb:b.length=n)(A1 A2:Option Addr)(c1 c2 g:Nat)(w:World)(hg:GF w w.heap.size g D)(hr1:Rd w w.heap.size A1 a)(hr2:Rd w w.heap.size A2 b)(hn:n≤maxLen) :
  Calls Tryz.prog 170 #[.pointer (some ⟨g,0,none⟩),.slice A1 n c1,.slice A2 n c2] w fun e w'=>e=.returned (.int .i64 (ci (rsum n fun i=>eli D.toDesc (a[i]?.getD 0)*eli D.toDesc (b[i]?.getD 0))))∧Below w.heap.size w w':=by
 unfold maxLen at hn;have hM:=fun y z W hg=>Lib.hid (gMul_any D y z g W hg)
 have hA:=fun y z W hg=>Lib.hid (gAdd_any D y z g W hg)
 have hmin:min (n:Int) (n:Int)=(n:Int):=Int.min_self _;replace ha:=Lib.hid ha;replace hb:=Lib.hid hb;go_enter Tryz.func170,Tryz.ntmps170;go_wp2_with (fail);go_loopw [14,7] (fun i o wr=>∃ k:Nat,k≤n∧i=.int .i64 k∧o=.int .i64 (ci (rsum k fun i=>eli D.toDesc (a[i]?.getD 0)*eli D.toDesc (b[i]?.getD 0)))∧Below w.heap.size w wr) (fun i _ _=>n - (intOf i).toNat)
 case atStart=>exact⟨0,by omega,rfl,by rw[rsum_zero,ci_zero],Below.refl _ _⟩
 case round =>
  obtain⟨k,hk,rfl,rfl,hbw⟩:=hrel;by_cases hlt:k<n
  ·have hk0:(0:Int)≤(k:Int):=by omega
   have hk1:(k:Int)<(n:Int):=by omega
   obtain⟨b1,o1,rfl,hb1,hc1⟩:=hr1.at_ (by rw[ha.out]; exact hlt:k<a.length);obtain⟨b2,o2,rfl,hb2,hc2⟩:=hr2.at_ (by rw[hb.out]; exact hlt:k<b.length);have hd1:=(hbw.cell (p:=⟨b1,o1+k,none⟩) hb1).trans hc1;have hd2:=(hbw.cell (p:=⟨b2,o2+k,none⟩) hb2).trans hc2;obtain⟨x,hx⟩:∃ x,x=a[k]?.getD 0:=⟨_,rfl⟩;obtain⟨y,hy⟩:∃ y,y=b[k]?.getD 0:=⟨_,rfl⟩;rw[←hx]at hd1;rw[←hy]at hd2;have hA2:=fun W hg=>(hA (ci (rsum k fun i=>eli D.toDesc (a[i]?.getD 0)*eli D.toDesc (b[i]?.getD 0))) (ci (eli D.toDesc x*eli D.toDesc y)) W hg).out
   have hs:rsum k (fun i=>eli D.toDesc (a[i]?.getD 0)*eli D.toDesc (b[i]?.getD 0))+eli D.toDesc x*eli D.toDesc y=rsum (k+1) (fun i=>eli D.toDesc (a[i]?.getD 0)*eli D.toDesc (b[i]?.getD 0)):=by rw[rsum_succ,hx,hy]
   rw[eli_ci,eli_ci,hs]at hA2;replace hA2:=fun W hg=>Lib.hid (hA2 W hg)
   have hM2:=fun W hg=>hM x y W hg
   have hgr:=(hg.below hbw).more hbw.size;have hbo1:b1<wr.heap.size:=Nat.lt_of_lt_of_le hb1 hbw.size;have hbo2:b2<wr.heap.size:=Nat.lt_of_lt_of_le hb2 hbw.size;have hcc:=Lib.hid (show _∧_ from ⟨hd1,hd2⟩);clear hc1 hc2 hs hx hy;go_wp2_with (fail);go_region_held3 (fun w'=>w'.cell? ⟨b1,o1+k,none⟩=some (.int .i64 x)∧w'.cell? ⟨b2,o2+k,none⟩=some (.int .i64 y)) (first | exact hcc.out | exact hcc1.out | exact hcc2.out)
    (first
     | (go_at_call 90; (with_reducible refine (hM2 _ hgr.drew).out.mono ?_); rintro e w1 ⟨rfl,hb1'⟩; have hs1:wr.heap.size≤w1.heap.size:=hb1'.size; have hbt1:=(hbw.drew).trans (hb1'.mono hbw.size); have hcc1:=Lib.hid (keepc2 hb1' hbo1 hbo2 hcc.out); have hg1:=(hg.below hbt1).more hbt1.size)
     | (go_at_call 91; (with_reducible refine (hA2 _ hg1).out.mono ?_); rintro e w2 ⟨rfl,hb2'⟩; have hbt2:=hbt1.trans (hb2'.mono hbt1.size); have hcc2:=Lib.hid (keepc2 hb2' (Nat.lt_of_lt_of_le hbo1 hs1) (Nat.lt_of_lt_of_le hbo2 hs1) hcc1.out)))
   go_wp2_with (fail);go_roundw
   case rel=>exact⟨k+1,by omega,by go_num,rfl,hbt2⟩
   case measure=>simp[intOf]; omega
  ·obtain rfl:k=n:=by omega
   go_wp2_with (fail);go_ret;exact⟨rfl,hbw⟩

set_option maxHeartbeats 1000000 in
theorem gDigits_any (D:FD)(x:Int)(g:Nat)(w:World)(hg:GF w w.heap.size g D) :
  Calls Tryz.prog 171 #[.pointer (some ⟨g,0,none⟩),.int .i64 x] w fun e w'=>∃ gb,e=.returned (.slice (some ⟨gb,0,none⟩) D.m D.m)∧w.heap.size≤gb∧IB w' gb (dl (eli D.toDesc x))∧Below w.heap.size w w':=by
 have hI:=fun W hg=>Lib.hid (gin_any D x g W hg)
 have hD:=fun W=>Lib.hid (digitsOf_ci D.toDesc (eli D.toDesc x) W)
 have k0:=Lib.hid (show _∧_ from ⟨hg.c0,hg.c1⟩);have hgl:=hg.lt;go_enter Tryz.func171,Tryz.ntmps171;go_wp2_with (fail);go_region_held3 (fun w'=>w'.cell? ⟨g,0,none⟩=some (.int .i64 D.p)∧w'.cell? ⟨g,1,none⟩=some (.int .i64 D.m)) (first | exact k0.out | exact k2.out)
  (first
   | (go_at_call 152; (with_reducible refine (hI _ hg.drew).out.mono ?_); rintro e w1 ⟨rfl,rfl⟩)
   | (go_at_call 198; (with_reducible refine (hD _).out.mono ?_); rintro e w2 ⟨gb,rfl,hgb,hib,hb2⟩; have k2:=Lib.hid (keepc2 hb2 hgl hgl k0.out)))
 go_wp2_with (fail);go_ret;exact⟨gb,rfl,hgb,hib,(Below.refl _ w).drew.trans hb2⟩
end
end Go.Proofs.YtogfekjbpcfgmaaGreat
