/- Order and the program's Eval. Entries that are elements; cells of a field and one more, kept. The program's inner product and digits. Layer 18 of the program: elements, twice. Go's slices.Index and slices.Contains over ints. -/
import Derived.Test.YtjdoneanohhkmaaGreatZtV10RP1
import Derived.Test.YtjdoneanohhkmaaGreatZtV10RRF
import Derived.Test.YtjdoneanohhkmaaGreatZtV10RGA
import Derived.Test.YtjdoneanohhkmaaGreatZtV10RBxs
import Derived.Test.YtjdoneanohhkmaaGreatZtV10RNewL
namespace Go.Proofs.YtjdoneanohhkmaaGreat
section
open Go.RowKit Cw

def Dis (v1 v2:Value):Prop:=∀ k,v1.ownBlock=some k→v2.ownBlock≠some k
theorem Dis.symm {v1 v2:Value} (h:Dis v1 v2):Dis v2 v1:=fun k h1 h2=>h k h2 h1
theorem Dis.step {v1 v2 u:Value} {B N:Nat} (h:Dis v1 v2)(hl:∀ k,v2.ownBlock=some k→B≤k∧k<N)(hv:u.ownBlock=v1.ownBlock∨∀ k,u.ownBlock=some k→N≤k):Dis u v2:=fun k h1 h2=>by
 rcases hv with e | e
 ·exact h k (e ▸ h1) h2
 ·have:=e k h1; have:=(hl k h2).2; omega
theorem Dis.ne {v1 v2:Value} (h:Dis v1 v2):v1.ownBlock=none∨v1.ownBlock≠v2.ownBlock:=by
 cases e:v1.ownBlock with
 | none=>exact .inl rfl
 | some k=>exact .inr fun e2=>h k e e2.symm
theorem Own.farB {w:World} {g:Nat} {v:Value} {l:List Int} (h:Own w (g+1) v l)(i:Nat)(u:Value):Own (w.setCell ⟨g,i,none⟩ u) (g+1) v l:=h.far (fun e=>by have:=(h.lt g e).1; omega) u

theorem Own.cap {w:World} {B n c:Nat} {A:Option Addr} {l:List Int} (h:Own w B (.slice A n c) l):c≤maxLen:=by
 rcases h.2 with ⟨e,-⟩ | ⟨g,cap,cur,hv,hb,hg,hc,hm,_⟩
 ·cases e; exact Nat.zero_le _
 ·cases hv; exact hm
theorem Rd.far {w:World} {B g:Nat} {A:Option Addr} {l:List Int} (h:Rd w B A l)(hA:∀ b,A=some b→b.block≠g)(i:Nat)(u:Value):Rd (w.setCell ⟨g,i,none⟩ u) B A l:=fun hn=>by
 obtain⟨b,off,e,hbl,hcell⟩:=h hn;have h8:=hA _ e;refine⟨b,off,e,hbl,fun j hj=>?_⟩;have ne:(⟨b,off+j,none⟩:Addr)≠⟨g,i,none⟩:=fun e2=>h8 (congrArg Addr.block e2)
 rw[World.cell?_setCell_other _ _ _ _ (by first | exact ne | exact ne.symm)];exact hcell j hj
theorem Own.base {w:World} {B B':Nat} {v:Value} {l:List Int} (h:Own w B v l)(hB:B'≤B):Own w B' v l:=by
 refine⟨h.1,?_⟩;rcases h.2 with hn | ⟨g,cap,cur,rfl,hb,rest⟩
 ·exact .inl hn
 ·exact .inr ⟨g,cap,cur,rfl,Nat.le_trans hB hb,rest⟩
theorem Own.cell0 {w:World} {B b o n c k:Nat} {l:List Int} (h:Own w B (.slice (some ⟨b,o,none⟩) n c) l)(hk:k<l.length):w.cell? ⟨b,o+k,none⟩=some (.int .i64 (l[k]?.getD 0)):=by
 obtain⟨A',c',e,-,hr,-⟩:=h.form
 cases e
 obtain⟨b',o',eA,-,hc⟩:=hr.at_ hk
 cases eA
 exact hc

set_option maxHeartbeats 400000 in
theorem gOrder_any (D:FD)(g:Nat)(w:World)(hg:GF w w.heap.size g D) :
  Calls Tryz.prog 162 #[.pointer (some ⟨g,0,none⟩)] w fun e w'=>e=.returned (.int .i64 D.q)∧w=w':=by
 have c3:=hg.c3;clear hg;go_enter Tryz.func162,Tryz.ntmps162;go_wp2_with (fail);go_ret;exact⟨rfl,rfl⟩

theorem rd_new (W:World)(l:List Int):Rd (W.alloc (.cells (l.map (Value.int .i64)).toArray 3)) (W.alloc (.cells (l.map (Value.int .i64)).toArray 3)).heap.size (some ⟨W.heap.size,0,none⟩) l:=(IB.new W l).rd

def pevI (D:Desc)[CRing (R D)] (l:List Int)(u:R D):R D:=rsum l.length fun i=>eli D (l[i]?.getD 0)*pw u i
def horner (D:Desc)(l:List Int)(u:R D):Nat→R D
 | 0=>0
 | t+1=>horner D l u t*u+eli D (l[l.length - (t+1)]?.getD 0)
theorem horner_eq (D:Desc)(l:List Int)(u:R D):∀ t,t≤l.length→horner D l u t=rsum t (fun i=>eli D (l[l.length - t+i]?.getD 0)*pw u i)
 | 0,_=>rfl
 | t+1,h=>by
  show horner D l u t*u+_=_
  rw[horner_eq D l u t (by omega),rsum_succ_left,Nat.add_zero,pw_zero,mul_one,add_c,←rsum_mul_right]
  congr 1
  refine rsum_congr fun i hi=>?_
  rw[show l.length - (t+1)+(i+1)=l.length - t+i by omega,mul_a];rfl
theorem horner_full (D:Desc)(l:List Int)(u:R D):horner D l u l.length=pevI D l u:=by
 rw[horner_eq D l u _ (Nat.le_refl _),Nat.sub_self];exact rsum_congr fun i _=>by rw[Nat.zero_add]

set_option maxHeartbeats 1000000 in
theorem pEval_any (D:FD)(l:List Int)(x:Int)(A:Option Addr)(c g:Nat)(w:World)(hg:GF w w.heap.size g D)(hr:Rd w w.heap.size A l)(hl:l.length≤maxLen) :
  Calls Tryz.prog 170 #[.pointer (some ⟨g,0,none⟩),.slice A l.length c,.int .i64 x] w fun e w'=>e=.returned (.int .i64 (ci (pevI D.toDesc l (eli D.toDesc x))))∧Below w.heap.size w w':=by
 unfold maxLen at hl;have hM:=fun y W hg=>Lib.hid (gMul_any D y x g W hg)
 have hA:=fun y z W hg=>Lib.hid (gAdd_any D y z g W hg)
 have hfin:=Lib.hid (horner_full D.toDesc l (eli D.toDesc x));go_enter Tryz.func170,Tryz.ntmps170;go_wp2_with (fail);go_loopw [7,8] (fun y i wr=>∃ t:Nat,t≤l.length∧i=.int .i64 ((l.length:Int) - 1 - t)∧y=.int .i64 (ci (horner D.toDesc l (eli D.toDesc x) t))∧Below w.heap.size w wr) (fun _ i _=>(intOf i+1).toNat)
 case atStart=>exact⟨0,by omega,by go_num,by show _=Value.int .i64 (ci (0:R D.toDesc)); rw[ci_zero],Below.refl _ _⟩
 case round =>
  obtain⟨t,ht,rfl,rfl,hbw⟩:=hrel;by_cases hlt:t<l.length
  ·have hge:decide ((0:Int)≤(l.length:Int) - 1 - t)=true:=by simp; omega
   obtain⟨k,hk⟩:∃ k:Nat,k=l.length - (t+1):=⟨_,rfl⟩;have hki:(l.length:Int) - 1 - t=(k:Int):=by omega
   rw[hki];have hkl:k<l.length:=by omega
   have hk0:(0:Int)≤(k:Int):=by omega
   have hk1:(k:Int)<(l.length:Int):=by omega
   obtain⟨b,o,rfl,hb,hc⟩:=hr.at_ hkl;have hc2:=(hbw.cell (p:=⟨b,o+k,none⟩) hb).trans hc;have hs:horner D.toDesc l (eli D.toDesc x) (t+1)=horner D.toDesc l (eli D.toDesc x) t*eli D.toDesc x+eli D.toDesc (l[k]?.getD 0):=by rw[hk]; rfl
   obtain⟨y,hy⟩:∃ y,y=l[k]?.getD 0:=⟨_,rfl⟩;rw[←hy]at hc2 hs;have hM2:=fun W hg=>(hM (ci (horner D.toDesc l (eli D.toDesc x) t)) W hg).out
   rw[eli_ci]at hM2;replace hM2:=fun W hg=>Lib.hid (hM2 W hg)
   have hA2:=fun W hg=>(hA (ci (horner D.toDesc l (eli D.toDesc x) t*eli D.toDesc x)) y W hg).out
   rw[eli_ci,←hs]at hA2;replace hA2:=fun W hg=>Lib.hid (hA2 W hg)
   have hgr:=(hg.below hbw).more hbw.size;have hcc:=Lib.hid hc2;replace hki:=Lib.hid hki;have hkt:k+t+1=l.length:=by omega
   replace hkt:=Lib.hid hkt;clear hc hs hy hge hk;go_wp2_with (fail);go_region_held3 (fun w'=>w'.cell? ⟨b,o+k,none⟩=some (.int .i64 y)) (first | exact hcc.out | exact hcc1.out | exact hcc2.out)
    (first
     | (go_at_call 140; (with_reducible refine (hM2 _ hgr.drew).out.mono ?_); rintro e w1 ⟨rfl,hb1⟩; have hbt1:=(hbw.drew).trans (hb1.mono hbw.size); have hcc1:=Lib.hid ((hb1.cell (p:=⟨b,o+k,none⟩) (Nat.lt_of_lt_of_le hb hbw.size)).trans hcc.out); have hg1:=(hg.below hbt1).more hbt1.size)
     | (go_at_call 141; (with_reducible refine (hA2 _ hg1).out.mono ?_); rintro e w2 ⟨rfl,hb2⟩; have hbt2:=hbt1.trans (hb2.mono hbt1.size); have hcc2:=Lib.hid ((hb2.cell (p:=⟨b,o+k,none⟩) (Nat.lt_of_lt_of_le hb hbt1.size)).trans hcc1.out)))
   go_wp2_with (fail);go_roundw
   case rel=>exact⟨t+1,by omega,by rw[←hki.out]; go_num,rfl,hbt2⟩
   case measure=>rw[←hki.out]; simp[intOf]; omega
  ·obtain rfl:t=l.length:=by omega
   have hge:decide ((0:Int)≤(l.length:Int) - 1 - (l.length:Int))=false:=by simp; omega
   have hki:(l.length:Int) - 1 - (l.length:Int)=-1:=by omega
   rw[hki];clear hge;go_wp2_with (fail);go_ret;exact⟨ret_int (by rw[hfin.out]),hbw⟩
end
section
open Go.RowKit Cw

def elB (D:Desc)(l:List Int):Bool:=decide (∀ x∈l,0≤x∧x<(D.q:Int))
theorem elB_iff {D:Desc} {l:List Int}:elB D l=true↔∀ j,j<l.length→0≤l[j]?.getD 0∧l[j]?.getD 0<(D.q:Int):=by
 unfold elB;rw[decide_eq_true_iff];constructor
 ·intro h j hj;rw[List.getElem?_eq_getElem hj];exact h _ (List.getElem_mem _)
 ·intro h x hx;obtain⟨j,hj,rfl⟩:=List.getElem_of_mem hx;have:=h j hj
  rwa [List.getElem?_eq_getElem hj]at this
theorem elB_no {D:Desc} {l:List Int} {j:Nat} (hj:j<l.length)(h:¬ (0≤l[j]?.getD 0∧l[j]?.getD 0<(D.q:Int))):elB D l=false:=by
 rw[←Bool.not_eq_true,elB_iff];exact fun h2=>h (h2 j hj)
theorem keep4 {B b b1 o1:Nat} {W w1:World} {v0 v1 v2 v3:Value} (hb:Below B W w1)(h2:b<B)(h3:b1<B)(h4:W.cell? ⟨b,0,none⟩=some v0∧W.cell? ⟨b,1,none⟩=some v1∧W.cell? ⟨b,2,none⟩=some v2∧W.cell? ⟨b1,o1,none⟩=some v3) :
  w1.cell? ⟨b,0,none⟩=some v0∧w1.cell? ⟨b,1,none⟩=some v1∧w1.cell? ⟨b,2,none⟩=some v2∧w1.cell? ⟨b1,o1,none⟩=some v3 :=
 have k:=keep3 hb h2 ⟨h4.1,h4.2.1,h4.2.2.1⟩
 ⟨k.1,k.2.1,k.2.2,(hb.cell (p:=⟨b1,o1,none⟩) h3).trans h4.2.2.2⟩
theorem Bx.cells {w:World} {b:Nat} {D:Desc} {A:Option Addr} {n c:Nat} (h:Bx w b D A n c):w.cell? ⟨b,0,none⟩=some (.int .i64 D.p)∧w.cell? ⟨b,1,none⟩=some (.int .i64 D.m)∧w.cell? ⟨b,2,none⟩=some (.slice A n c):=h
end
section
open Go.RowKit Cw
attribute [local go_sem] Oper.semAt_some

theorem keepc2 {B b1 o1 b2 o2:Nat} {W w1:World} {v0 v1:Value} (hb:Below B W w1)(h1:b1<B)(h2:b2<B)(h:W.cell? ⟨b1,o1,none⟩=some v0∧W.cell? ⟨b2,o2,none⟩=some v1) :
  w1.cell? ⟨b1,o1,none⟩=some v0∧w1.cell? ⟨b2,o2,none⟩=some v1 :=
 ⟨(hb.cell (p:=⟨b1,o1,none⟩) h1).trans h.1,(hb.cell (p:=⟨b2,o2,none⟩) h2).trans h.2⟩

set_option maxHeartbeats 1000000 in
theorem gDot_any (D:FD)(a b:List Int)(n:Nat)(ha:a.length=n)(hb:b.length=n)(A1 A2:Option Addr)(c1 c2 g:Nat)(w:World)(hg:GF w w.heap.size g D)(hr1:Rd w w.heap.size A1 a)(hr2:Rd w w.heap.size A2 b)(hn:n≤maxLen) :
  Calls Tryz.prog 215 #[.pointer (some ⟨g,0,none⟩),.slice A1 n c1,.slice A2 n c2] w fun e w'=>e=.returned (.int .i64 (ci (rsum n fun i=>eli D.toDesc (a[i]?.getD 0)*eli D.toDesc (b[i]?.getD 0))))∧Below w.heap.size w w':=by
 unfold maxLen at hn;have hM:=fun y z W hg=>Lib.hid (gMul_any D y z g W hg)
 have hA:=fun y z W hg=>Lib.hid (gAdd_any D y z g W hg)
 have hmin:min (n:Int) (n:Int)=(n:Int):=Int.min_self _;replace ha:=Lib.hid ha;replace hb:=Lib.hid hb;go_enter Tryz.func215,Tryz.ntmps215;go_wp2_with (fail);go_loopw [14,7] (fun i o wr=>∃ k:Nat,k≤n∧i=.int .i64 k∧o=.int .i64 (ci (rsum k fun i=>eli D.toDesc (a[i]?.getD 0)*eli D.toDesc (b[i]?.getD 0)))∧Below w.heap.size w wr) (fun i _ _=>n - (intOf i).toNat)
 case atStart=>exact⟨0,by omega,rfl,by rw[rsum_zero,ci_zero],Below.refl _ _⟩
 case round =>
  obtain⟨k,hk,rfl,rfl,hbw⟩:=hrel;by_cases hlt:k<n
  ·have hk0:(0:Int)≤(k:Int):=by omega
   have hk1:(k:Int)<(n:Int):=by omega
   obtain⟨b1,o1,rfl,hb1,hc1⟩:=hr1.at_ (by rw[ha.out]; exact hlt:k<a.length);obtain⟨b2,o2,rfl,hb2,hc2⟩:=hr2.at_ (by rw[hb.out]; exact hlt:k<b.length);have hd1:=(hbw.cell (p:=⟨b1,o1+k,none⟩) hb1).trans hc1;have hd2:=(hbw.cell (p:=⟨b2,o2+k,none⟩) hb2).trans hc2;obtain⟨x,hx⟩:∃ x,x=a[k]?.getD 0:=⟨_,rfl⟩;obtain⟨y,hy⟩:∃ y,y=b[k]?.getD 0:=⟨_,rfl⟩;rw[←hx]at hd1;rw[←hy]at hd2;have hA2:=fun W hg=>(hA (ci (rsum k fun i=>eli D.toDesc (a[i]?.getD 0)*eli D.toDesc (b[i]?.getD 0))) (ci (eli D.toDesc x*eli D.toDesc y)) W hg).out
   have hs:rsum k (fun i=>eli D.toDesc (a[i]?.getD 0)*eli D.toDesc (b[i]?.getD 0))+eli D.toDesc x*eli D.toDesc y=rsum (k+1) (fun i=>eli D.toDesc (a[i]?.getD 0)*eli D.toDesc (b[i]?.getD 0)):=by rw[rsum_succ,hx,hy]
   rw[eli_ci,eli_ci,hs]at hA2;replace hA2:=fun W hg=>Lib.hid (hA2 W hg)
   have hM2:=fun W hg=>hM x y W hg
   have hgr:=(hg.below hbw).more hbw.size;have hbo1:b1<wr.heap.size:=Nat.lt_of_lt_of_le hb1 hbw.size;have hbo2:b2<wr.heap.size:=Nat.lt_of_lt_of_le hb2 hbw.size;have hcc:=Lib.hid (show _∧_ from ⟨hd1,hd2⟩);clear hc1 hc2 hs hx hy;go_wp2_with (fail);go_region_held3 (fun w'=>w'.cell? ⟨b1,o1+k,none⟩=some (.int .i64 x)∧w'.cell? ⟨b2,o2+k,none⟩=some (.int .i64 y)) (first | exact hcc.out | exact hcc1.out | exact hcc2.out)
    (first
     | (go_at_call 140; (with_reducible refine (hM2 _ hgr.drew).out.mono ?_); rintro e w1 ⟨rfl,hb1'⟩; have hs1:wr.heap.size≤w1.heap.size:=hb1'.size; have hbt1:=(hbw.drew).trans (hb1'.mono hbw.size); have hcc1:=Lib.hid (keepc2 hb1' hbo1 hbo2 hcc.out); have hg1:=(hg.below hbt1).more hbt1.size)
     | (go_at_call 141; (with_reducible refine (hA2 _ hg1).out.mono ?_); rintro e w2 ⟨rfl,hb2'⟩; have hbt2:=hbt1.trans (hb2'.mono hbt1.size); have hcc2:=Lib.hid (keepc2 hb2' (Nat.lt_of_lt_of_le hbo1 hs1) (Nat.lt_of_lt_of_le hbo2 hs1) hcc1.out)))
   go_wp2_with (fail);go_roundw
   case rel=>exact⟨k+1,by omega,by go_num,rfl,hbt2⟩
   case measure=>simp[intOf]; omega
  ·obtain rfl:k=n:=by omega
   go_wp2_with (fail);go_ret;exact⟨rfl,hbw⟩

set_option maxHeartbeats 1000000 in
theorem gDigits_any (D:FD)(x:Int)(g:Nat)(w:World)(hg:GF w w.heap.size g D) :
  Calls Tryz.prog 216 #[.pointer (some ⟨g,0,none⟩),.int .i64 x] w fun e w'=>∃ gb,e=.returned (.slice (some ⟨gb,0,none⟩) D.m D.m)∧w.heap.size≤gb∧IB w' gb (dl (eli D.toDesc x))∧Below w.heap.size w w':=by
 have hI:=fun W hg=>Lib.hid (gin_any D x g W hg)
 have hD:=fun W=>Lib.hid (digitsOf_ci D.toDesc (eli D.toDesc x) W)
 have k0:=Lib.hid (show _∧_ from ⟨hg.c0,hg.c1⟩);have hgl:=hg.lt;go_enter Tryz.func216,Tryz.ntmps216;go_wp2_with (fail);go_region_held3 (fun w'=>w'.cell? ⟨g,0,none⟩=some (.int .i64 D.p)∧w'.cell? ⟨g,1,none⟩=some (.int .i64 D.m)) (first | exact k0.out | exact k2.out)
  (first
   | (go_at_call 180; (with_reducible refine (hI _ hg.drew).out.mono ?_); rintro e w1 ⟨rfl,rfl⟩)
   | (go_at_call 235; (with_reducible refine (hD _).out.mono ?_); rintro e w2 ⟨gb,rfl,hgb,hib,hb2⟩; have k2:=Lib.hid (keepc2 hb2 hgl hgl k0.out)))
 go_wp2_with (fail);go_ret;exact⟨gb,rfl,hgb,hib,(Below.refl _ w).drew.trans hb2⟩
end
section
open Go.RowKit Cw

def twB (l:List Int):Bool:=decide (¬ l.Nodup)
theorem twB_yes {l:List Int} {i j:Nat} (hij:j<i)(hi:i<l.length)(h:l[i]?.getD 0=l[j]?.getD 0):twB l=true:=by
 unfold twB;rw[decide_eq_true_iff];intro hn;rw[List.getElem?_eq_getElem hi,List.getElem?_eq_getElem (by omega:j<l.length)]at h;exact List.pairwise_iff_getElem.1 hn j i (by omega) hi hij h.symm
theorem twB_no {l:List Int} (h:∀ i j,j<i→i<l.length→l[i]?.getD 0≠l[j]?.getD 0):twB l=false:=by
 unfold twB;rw[decide_eq_false_iff_not,Classical.not_not];refine List.pairwise_iff_getElem.2 fun i j hi hj hij e=>h j i hij hj ?_
 rw[List.getElem?_eq_getElem hi,List.getElem?_eq_getElem hj];exact e.symm

set_option maxHeartbeats 1000000 in
theorem gElems_any (D:FD)(l:List Int)(A:Option Addr)(c g:Nat)(w:World)(hg:GF w w.heap.size g D)(hr:Rd w w.heap.size A l)(hl:l.length≤maxLen) :
  Calls Tryz.prog 227 #[.pointer (some ⟨g,0,none⟩),.slice A l.length c] w fun e w'=>e=.returned (.bool (elB D.toDesc l))∧w=w':=by
 unfold maxLen at hl;have hI:=fun x=>Lib.hid (gIs_any D x g w hg)
 go_enter Tryz.func227,Tryz.ntmps227;go_wp2_with (fail);go_loop [9,6] (fun i _=>∃ k:Nat,k≤l.length∧i=.int .i64 k∧Hid (∀ j,j<k→0≤l[j]?.getD 0∧l[j]?.getD 0<(D.q:Int))) (fun i _=>l.length - (intOf i).toNat)
 case atStart=>exact⟨0,by omega,rfl,fun j hj=>absurd hj (by omega)⟩
 case round =>
  obtain⟨k,hk,rfl,hall⟩:=hrel;by_cases hlt:k<l.length
  ·obtain⟨b,o,rfl,-,hc⟩:=hr.at_ hlt;have hI2:=hI (l[k]?.getD 0);by_cases hy:0≤l[k]?.getD 0∧l[k]?.getD 0<(D.q:Int)
   ·rw[decide_eq_true hy]at hI2;have hall2:Hid (∀ j,j<k+1→0≤l[j]?.getD 0∧l[j]?.getD 0<(D.q:Int)):=fun j hj=>by
     by_cases e:j=k
     ·subst e; exact hy
     ·exact hall.out j (by omega)
    clear hy;generalize l[k]?.getD 0=y at *;go_wp2_with (fail);(with_reducible refine hI2.out.mono ?_);rintro e w1 ⟨rfl,rfl⟩;go_wp2_with (fail);go_round
    case rel=>exact⟨k+1,by omega,by go_num,hall2⟩
    case measure=>simp[intOf]; omega
   ·have hfin:=Lib.hid (elB_no hlt hy);rw[decide_eq_false hy]at hI2;clear hy;generalize l[k]?.getD 0=y at *;go_wp2_with (fail);(with_reducible refine hI2.out.mono ?_);rintro e w1 ⟨rfl,rfl⟩;go_wp2_with (fail);go_ret;exact⟨ret_bool hfin.out.symm,rfl⟩
  ·obtain rfl:k=l.length:=by omega
   have hfin:=Lib.hid (elB_iff.2 hall.out);go_wp2_with (fail);go_ret;exact⟨ret_bool hfin.out.symm,rfl⟩

set_option maxHeartbeats 1000000 in
theorem gTwice_any (l:List Int)(A:Option Addr)(c:Nat)(w:World)(hr:Rd w w.heap.size A l)(hlc:l.length≤c)(hl:c≤maxLen) :
  Calls Tryz.prog 228 #[.slice A l.length c] w fun e w'=>e=.returned (.bool (twB l))∧w=w':=by
 unfold maxLen at hl;go_enter Tryz.func228,Tryz.ntmps228;go_wp2_with (fail);go_loop [9,3,4] (fun i _ _=>∃ k:Nat,k≤l.length∧i=.int .i64 k∧Hid (∀ i j,j<i→i<k→l[i]?.getD 0≠l[j]?.getD 0)) (fun i _ _=>l.length - (intOf i).toNat)
 case atStart=>exact⟨0,by omega,rfl,fun i j h1 h2=>absurd h2 (by omega)⟩
 case round =>
  obtain⟨k,hk,rfl,hall⟩:=hrel;by_cases hlt:k<l.length
  ·obtain⟨b,o,rfl,-,hc⟩:=hr.at_ hlt;obtain⟨y,hy⟩:∃ y,y=l[k]?.getD 0:=⟨_,rfl⟩;rw[←hy]at hc;replace hy:=Lib.hid hy;go_wp2_with (fail);go_loop [18,6] (fun i _=>∃ j:Nat,j≤k∧i=.int .i64 j∧Hid (∀ t,t<j→y≠l[t]?.getD 0)) (fun i _=>k - (intOf i).toNat)
   case atStart=>exact⟨0,by omega,rfl,fun t ht=>absurd ht (by omega)⟩
   case round =>
    obtain⟨j,hj,rfl,hall3⟩:=hrel;by_cases hlt2:j<k
    ·obtain⟨b2,o2,e2,-,hc2⟩:=hr.at_ (by omega:j<l.length)
     cases e2
     obtain⟨z,hz⟩:∃ z,z=l[j]?.getD 0:=⟨_,rfl⟩;rw[←hz]at hc2;replace hz:=Lib.hid hz;by_cases hyz:y=z
     ·have hfin:=Lib.hid (twB_yes hlt2 hlt (by rw[←hy.out,←hz.out,hyz]));have hb:(y==z)=true:=beq_iff_eq.2 hyz;clear hyz;go_wp2_with (fail);go_ret;exact⟨ret_bool hfin.out.symm,rfl⟩
     ·have hb:(y==z)=false:=beq_eq_false_iff_ne.2 hyz;have hall4:Hid (∀ t,t<j+1→y≠l[t]?.getD 0):=fun t ht=>by
       by_cases e:t=j
       ·subst e; rw[←hz.out]; exact hyz
       ·exact hall3.out t (by omega)
      clear hyz;go_wp2_with (fail);go_round
      case rel=>exact⟨j+1,by omega,by go_num,hall4⟩
      case measure=>simp[intOf]; omega
    ·obtain rfl:j=k:=by omega
     have hall2:Hid (∀ i t,t<i→i<j+1→l[i]?.getD 0≠l[t]?.getD 0):=fun i t h1 h2=>by
      by_cases e:i=j
      ·subst e; rw[←hy.out]; exact hall3.out t h1
      ·exact hall.out i t h1 (by omega)
     go_wp2_with (fail);go_round
     case rel=>exact⟨j+1,by omega,by go_num,hall2⟩
     case measure=>simp[intOf]; omega
  ·obtain rfl:k=l.length:=by omega
   have hfin:=Lib.hid (twB_no hall.out);go_wp2_with (fail);go_ret;exact⟨ret_bool hfin.out.symm,rfl⟩
end
section
open Go.RowKit Cw

def conB (l:List Int)(x:Int):Bool:=decide (x∈l)
def IdxPost (l:List Int)(x:Int)(w:World)(e:Ending)(w':World):Prop:=∃ i:Int,e=.returned (.int .i64 i)∧w=w'∧decide (0≤i)=conB l x
theorem conB_yes {l:List Int} {k:Nat} (h:k<l.length):conB l (l[k]?.getD 0)=true:=by
 unfold conB;rw[decide_eq_true_iff,List.getElem?_eq_getElem h];exact List.getElem_mem h
theorem conB_no {l:List Int} {x:Int} (h:∀ j,j<l.length→l[j]?.getD 0≠x):conB l x=false:=by
 unfold conB;rw[decide_eq_false_iff_not];intro hm;obtain⟨j,hj,e⟩:=List.getElem_of_mem hm;exact h j hj (by rw[List.getElem?_eq_getElem hj]; exact e)
set_option maxHeartbeats 1000000 in
theorem Index_any (l:List Int)(x:Int)(A:Option Addr)(c:Nat)(w:World)(hr:Rd w w.heap.size A l)(hl:l.length≤maxLen) :
  Calls Tryz.prog 143 #[.slice A l.length c,.int .i64 x] w (IdxPost l x w):=by
 unfold maxLen at hl;unfold IdxPost;go_enter Tryz.func143,Tryz.ntmps143;go_wp2_with (fail);go_loop [8,5] (fun i _=>∃ k:Nat,k≤l.length∧i=.int .i64 k∧Hid (∀ j,j<k→l[j]?.getD 0≠x)) (fun i _=>l.length - (intOf i).toNat)
 case atStart=>exact⟨0,by omega,rfl,fun j hj=>absurd hj (by omega)⟩
 case round =>
  obtain⟨k,hk,rfl,hall⟩:=hrel;by_cases hlt:k<l.length
  ·obtain⟨b,o,rfl,-,hc⟩:=hr.at_ hlt;have i0:(0:Int)≤(k:Int):=by omega
   have i1:(k:Int)<(l.length:Int):=by omega
   by_cases hy:x=l[k]?.getD 0
   ·have hfin:=Lib.hid (conB_yes hlt);rw[←hy]at hc hfin;have hyb:(x==x)=true:=by simp
    clear hy;go_wp2_with (fail);go_ret;exact⟨(k:Int),rfl,rfl,by rw[hfin.out]; exact decide_eq_true (by omega)⟩
   ·have hall2:Hid (∀ j,j<k+1→l[j]?.getD 0≠x):=fun j hj=>by
     by_cases e:j=k
     ·subst e; exact fun e=>hy e.symm
     ·exact hall.out j (by omega)
    have hyb:(x==l[k]?.getD 0)=false:=by rw[beq_eq_false_iff_ne]; exact hy
    generalize l[k]?.getD 0=y at *;go_wp2_with (fail);go_round
    case rel=>exact⟨k+1,by omega,by go_num,hall2⟩
    case measure=>simp[intOf]; omega
  ·have hfin:=Lib.hid (conB_no (l:=l) (x:=x) (fun j hj=>hall.out j (by omega)));go_wp2_with (fail);go_ret;exact⟨-1,rfl,rfl,by rw[hfin.out]; rfl⟩
set_option maxHeartbeats 1000000 in
theorem Contains_any (l:List Int)(x:Int)(A:Option Addr)(c:Nat)(w:World)(hr:Rd w w.heap.size A l)(hl:l.length≤maxLen) :
  Calls Tryz.prog 68 #[.slice A l.length c,.int .i64 x] w fun e w'=>e=.returned (.bool (conB l x))∧w=w':=by
 have hI:=Lib.hid (Index_any l x A c w hr hl);go_enter Tryz.func68,Tryz.ntmps68;go_wp2_with (fail);(with_reducible refine hI.out.mono ?_);rintro e w1 ⟨i,rfl,rfl,hi⟩;replace hi:=Lib.hid hi;go_wp2_with (fail);go_ret;exact⟨ret_bool hi.out,rfl⟩
end
end Go.Proofs.YtjdoneanohhkmaaGreat
