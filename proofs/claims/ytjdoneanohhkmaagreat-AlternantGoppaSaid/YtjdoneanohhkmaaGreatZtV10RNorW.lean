/- Layer 7 of the program: basis, IsBasis, Coordinates, Dual. Layer 7 of the program: IsBasis, Coordinates, Dual. Normal elements: the plain part. Layer 7 of the program: Normal. -/
import Derived.Test.YtjdoneanohhkmaaGreatZtV10RPol5
import Derived.Test.YtjdoneanohhkmaaGreatZtV10RNrm
import Derived.Test.YtjdoneanohhkmaaGreatZtV10RTowA
import Derived.Test.YtjdoneanohhkmaaGreatZtV10RSysW
import Derived.Test.YtjdoneanohhkmaaGreatZtV10RPoR
set_option linter.unusedVariables false
set_option linter.unusedSimpArgs false
namespace Go.Proofs.YtjdoneanohhkmaaGreat
section
open Go.RowKit Cw
attribute [local go_sem] Oper.semAt_some

def elL (F:FD)(l:List Int):Nat→R F.toDesc:=fun j=>eli F.toDesc (l[j]?.getD 0)
def BasP (F:FD)(l:List Int)(d:Nat):Prop:=l.length=F.m / d∧IndS d (F.m / d) (elL F l)
open Classical in
noncomputable def basE (F:FD)(l:List Int)(d:Int):Int:=if divB F.m d=true then (if BasP F l d.toNat then 0 else 9) else 6
theorem basE_no {F:FD} {l:List Int} {d:Int} (h:divB F.m d=false):basE F l d=6:=by unfold basE; rw[if_neg (by rw[h]; decide)]
theorem basE_ok {F:FD} {l:List Int} {d:Nat} (h:divB F.m d=true)(hb:BasP F l d):basE F l d=0:=by unfold basE; rw[if_pos h,if_pos (by rw[Int.toNat_natCast]; exact hb)]
theorem basE_bad {F:FD} {l:List Int} {d:Nat} (h:divB F.m d=true)(hb:¬ BasP F l d):basE F l d=9:=by unfold basE; rw[if_pos h,if_neg (by rw[Int.toNat_natCast]; exact hb)]
theorem FD_M (F:FD):FF.M (R F.toDesc)=F.m:=rfl

set_option maxHeartbeats 2000000 in
theorem tBasis_any (F:FD)(l:List Int)(d:Int)(Al:Option Addr)(cl gf:Nat)(w:World)(hg:GF w w.heap.size gf F)(hrl:Rd w w.heap.size Al l)(hl:l.length≤maxLen) :
  Calls Tryz.prog 160 #[.pointer (some ⟨gf,0,none⟩),.slice Al l.length cl,.int .i64 d] w fun e w'=>e=.returned (.int .i64 (basE F l d))∧Below w.heap.size w w':=by
 unfold maxLen at hl;have hI:=Lib.hid (isDegree_any F d gf w hg);by_cases hdv:divB F.m d=true
 ·rw[hdv]at hI;obtain⟨dn,rfl,hk1,hkm,hkd⟩:=divB_nat hdv;have hfm8:=F.m8;have hd8:dn≤8:=by omega
  have hE:=fun W h=>Lib.hid (teach_any F 0 dn gf W h hk1 hd8)
  obtain⟨n,hn⟩:∃ n,n=F.m / dn:=⟨_,rfl⟩;have hn8:n≤8:=by rw[hn]; exact Nat.le_trans (Nat.div_le_self _ _) F.m8
  have hn1:1≤n:=by rw[hn]; exact Nat.div_pos hkm hk1
  have hnM:dn*n=FF.M (R F.toDesc):=by rw[hn,FD_M]; exact Nat.mul_div_cancel' hkd
  have hbad:=basE_bad (l:=l) hdv;have hok:=basE_ok (l:=l) hdv;unfold BasP at hbad hok;rw[←hn]at hE hbad hok;by_cases hln:l.length=n
  ·have hS:=fun A c W a b e=>tSystem_any F n (n+1) dn rfl hk1 hd8 hn.symm l hln (fun i=>frob (dn*i) (eli F.toDesc 0)) Al A cl c gf W a b e
   have hV:=fun M g L W a b c d=>tSolve_any F n (n+1) rfl M g n gf L W a b c d (by omega)
   have hq:((l.length:Int) !=(n:Int))=false:=by rw[hln]; simp
   have h9:¬ IndS dn n (elL F l)→basE F l dn=9:=fun h=>hbad fun e=>h e.2
   have h0:IndS dn n (elL F l)→basE F l dn=0:=fun h=>hok ⟨hln,h⟩
   replace h9:=Lib.hid h9;replace h0:=Lib.hid h0;replace hln:=Lib.hid hln;replace hnM:=Lib.hid hnM;clear hbad hok hdv hkd hkm hn hfm8;go_enter Tryz.func160,Tryz.ntmps160;go_wp2_with (fail);(with_reducible refine hI.out.mono ?_);rintro e w1 ⟨rfl,hb1⟩;have hg1:=(hg.below hb1).more hb1.size;have hE1:=hE w1 hg1;go_wp2_with (fail);(with_reducible refine hE1.out.mono ?_);rintro e w2 ⟨g2,rfl,hg2,hib2,hb2⟩;have hB2:=hb1.trans (hb2.mono hb1.size);have hgf2:=(hg.below hB2).more hB2.size;have hS2:=Lib.hid (hS (some ⟨g2,0,none⟩) n w2 hgf2 ((hrl.below hB2).more hB2.size) hib2.rd);clear hS hE hE1 hI hb1 hb2;have hS3:=hS2;rw[←hln.out]at hS2;go_wp2_with (fail);have hS4:=hS3.out;rw[←hln.out]at hS4;rw[hln.out];(with_reducible refine hS3.out.mono ?_);rintro e w3 ⟨g3,rfl,hg3,hmp3,hb3⟩;have hB3:=hB2.trans (hb3.mono hB2.size);have hV3:=Lib.hid (hV _ g3 w2.heap.size w3 (hgf2.below hb3) hmp3 hb3.size hg3);clear hV hS2 hS3 hS4;go_wp2_with (fail);(with_reducible refine hV3.out.mono ?_);rintro e w4 ⟨hb4,⟨rfl,x,⟨j,hj,hxj⟩,hk⟩ | ⟨b5,x,rfl,hb,hib,hs,hk⟩⟩
   ·have hfin:Hid (basE F l dn=9):=h9.out fun h=>hxj (ker_of_ind hnM.out hk1 hn1 h hk j hj)
    have hB4:=hB2.trans ((hb3.trans hb4).mono hB2.size);clear hk hxj hV3;go_wp2_with (fail);go_ret;exact⟨by rw[hfin.out]; rfl,hB4⟩
   ·have hfin:Hid (basE F l dn=0):=h0.out (ind_of_ker hk);have hB4:=hB2.trans ((hb3.trans hb4).mono hB2.size);clear hk hs hib hV3;go_wp2_with (fail);go_ret;exact⟨by rw[hfin.out]; rfl,hB4⟩
  ·have hq:((l.length:Int) !=(n:Int))=true:=by rw[bne_iff_ne]; omega
   have hfin:Hid (basE F l dn=9):=hbad fun e=>hln e.1
   clear hbad hok hdv hkd hkm hn hfm8 hln hnM;go_enter Tryz.func160,Tryz.ntmps160;go_wp2_with (fail);(with_reducible refine hI.out.mono ?_);rintro e w1 ⟨rfl,hb1⟩;have hg1:=(hg.below hb1).more hb1.size;have hE1:=hE w1 hg1;go_wp2_with (fail);(with_reducible refine hE1.out.mono ?_);rintro e w2 ⟨g2,rfl,hg2,hib2,hb2⟩;go_wp2_with (fail);go_ret;exact⟨by rw[hfin.out]; rfl,hb1.trans (hb2.mono hb1.size)⟩
 ·rw[Bool.not_eq_true]at hdv;have hfin:=Lib.hid (basE_no (l:=l) hdv);rw[hdv]at hI;clear hdv;go_enter Tryz.func160,Tryz.ntmps160;go_wp2_with (fail);(with_reducible refine hI.out.mono ?_);rintro e w1 ⟨rfl,hb1⟩;go_wp2_with (fail);go_ret;exact⟨by rw[hfin.out]; rfl,hb1⟩
end
section
open Go.RowKit Cw
attribute [local go_sem] Oper.semAt_some

set_option maxHeartbeats 1000000 in
theorem tIsBasis_any (F:FD)(l:List Int)(d:Int)(Al:Option Addr)(cl gf:Nat)(w:World)(hg:GF w w.heap.size gf F)(hrl:Rd w w.heap.size Al l)(hl:l.length≤maxLen) :
  Calls Tryz.prog 84 #[.pointer (some ⟨gf,0,none⟩),.slice Al l.length cl,.int .i64 d] w fun e w'=>e=.returned (.bool (basE F l d==0))∧Below w.heap.size w w':=by
 have hB:=Lib.hid (tBasis_any F l d Al cl gf w hg hrl hl);go_enter Tryz.func84,Tryz.ntmps84;go_wp2_with (fail);(with_reducible refine hB.out.mono ?_);rintro e w1 ⟨rfl,hb1⟩;go_wp2_with (fail);go_ret;exact⟨rfl,hb1⟩

def CoorLow (F:FD)(l:List Int)(d n:Nat)(x:Int)(w:World)(e:Ending)(w':World):Prop :=
 Below w.heap.size w w'∧∃ b,∃ c:Nat→R F.toDesc,e=.returned (.tuple #[.slice (some ⟨b,0,none⟩) n n,.int .i64 0])∧w.heap.size≤b∧IB w' b (rowL F.toDesc n c)∧(∀ j,j<n→InSub d (c j))∧rsum n (fun j=>c j*elL F l j)=eli F.toDesc x
set_option maxHeartbeats 2000000 in
theorem tCoor_low (F:FD)(l:List Int)(d n:Nat)(x:Int)(Al:Option Addr)(cl gf:Nat)(w:World)(hg:GF w w.heap.size gf F)(hrl:Rd w w.heap.size Al l)(hd1:1≤d)(hdm:d≤F.m)(hkd:d∣F.m)(hn:F.m / d=n)(hln:l.length=n)(hI:IndS d n (elL F l)) :
  Calls Tryz.prog 163 #[.pointer (some ⟨gf,0,none⟩),.slice Al n cl,.int .i64 d,.int .i64 x] w (CoorLow F l d n x w):=by
 have hfm8:=F.m8;have hd8:d≤8:=by omega
 have hn8:n≤8:=by rw[←hn]; exact Nat.le_trans (Nat.div_le_self _ _) F.m8
 have hn1:1≤n:=by rw[←hn]; exact Nat.div_pos hdm hd1
 have hnM:d*n=FF.M (R F.toDesc):=by rw[←hn,FD_M]; exact Nat.mul_div_cancel' hkd
 have hB:=tBasis_any F l d Al cl gf w hg hrl (by unfold maxLen; omega);rw[basE_ok (divB_of hd1 hkd F.m1) (by unfold BasP; rw[hn]; exact⟨hln,hI⟩),hln]at hB;have hE:=fun W h=>teach_any F x d gf W h hd1 hd8
 rw[hn]at hE;have hS:=fun A c W a b e=>tSystem_any F n (n+1) d rfl hd1 hd8 hn l hln (fun i=>frob (d*i) (eli F.toDesc x)) Al A cl c gf W a b e
 have hV:=fun M g L W a b c d=>tSolve_any F n (n+1) rfl M g n gf L W a b c d (by omega)
 unfold CoorLow;replace hB:=Lib.hid hB;replace hE:=fun W h=>Lib.hid (hE W h)
 replace hln:=Lib.hid hln;replace hnM:=Lib.hid hnM;clear hdm hkd hn hfm8;go_enter Tryz.func163,Tryz.ntmps163;go_wp2_with (fail);(with_reducible refine hB.out.mono ?_);rintro e w1 ⟨rfl,hb1⟩;have hE1:=hE w1 ((hg.below hb1).more hb1.size);go_wp2_with (fail);(with_reducible refine hE1.out.mono ?_);rintro e w2 ⟨g2,rfl,hg2,hib2,hb2⟩;have hB2:=hb1.trans (hb2.mono hb1.size);have hgf2:=(hg.below hB2).more hB2.size;have hS2:=Lib.hid (hS (some ⟨g2,0,none⟩) n w2 hgf2 ((hrl.below hB2).more hB2.size) hib2.rd);clear hS hE hE1 hb1 hb2;go_wp2_with (fail);(with_reducible refine hS2.out.mono ?_);rintro e w3 ⟨g3,rfl,hg3,hmp3,hb3⟩;have hV3:=Lib.hid (hV _ g3 w2.heap.size w3 (hgf2.below hb3) hmp3 hb3.size hg3);clear hV hS2;go_wp2_with (fail);(with_reducible refine hV3.out.mono ?_);rintro e w4 ⟨hb4,⟨rfl,y,⟨j,hj,hyj⟩,hk⟩ | ⟨b5,c,rfl,hb,hib,hs,hk⟩⟩
 ·exact absurd (ker_of_ind hnM.out hd1 hn1 hI hk j hj) hyj
 ·obtain⟨h1,h2⟩:=coor_sub hnM.out hs;have hB4:=hB2.trans ((hb3.trans hb4).mono hB2.size);have hlo:w.heap.size≤b5:=Nat.le_trans (hB2.trans (hb3.mono hB2.size)).size hb;have hfin:=Lib.hid (show _∧_∧_ from ⟨hib,h1,h2 hn1⟩);clear hk hs hib hV3 h1 h2;go_wp2_with (fail);go_ret2;exact⟨hB4,b5,c,rfl,hlo,hfin.out⟩

end
section
open Go.RowKit Go.Shelf Cw
attribute [local go_sem] Oper.semAt_some

def NrmI (F:FD)(d n:Nat)(x:Int):Prop:=IndS d n fun i=>frob (d*i) (eli F.toDesc x)
def IsNrm (F:FD)(d n k:Nat):Prop:=k<F.q∧NrmI F d n k∧∀ j,j<k→¬ NrmI F d n j
theorem isNrm_ex (F:FD){d:Nat} (hd:d∣F.m)(h1:1≤d):∃ k,IsNrm F d (F.m / d) k:=by
 obtain⟨u,hu⟩:=normal_ex F hd h1;have h:∀ n,n≤rcode u→(∃ k,IsNrm F d (F.m / d) k)∨∀ j,j<n→¬ NrmI F d (F.m / d) j:=fun n=>by
  induction n with
  | zero=>exact fun _=>.inr fun j hj=>absurd hj (by omega)
  | succ n ih =>
   intro hn;rcases ih (by omega) with h1 | h1
   ·exact .inl h1
   ·by_cases e:NrmI F d (F.m / d) n
    ·exact .inl ⟨n,by have:=rcode_lt u; omega,e,h1⟩
    ·refine .inr fun j hj=>?_
     rcases (by omega:j<n∨j=n) with h2 | rfl
     ·exact h1 j h2
     ·exact e
 rcases h (rcode u) (Nat.le_refl _) with h1 | h1
 ·exact h1
 ·exact⟨rcode u,rcode_lt u,by unfold NrmI; rw[eli_nat (rcode_lt u),rel_rcode]; exact hu,h1⟩
theorem IsNrm.uniq {F:FD} {d n k k':Nat} (h1:IsNrm F d n k)(h2:IsNrm F d n k'):k=k':=by
 rcases Nat.lt_trichotomy k k' with h | h | h
 ·exact absurd h1.2.1 (h2.2.2 k h)
 ·exact h
 ·exact absurd h2.2.1 (h1.2.2 k' h)
theorem elL_frobs (F:FD)(d n:Nat)(u:R F.toDesc){j:Nat} (hj:j<n):elL F (frobs d u n) j=frob (d*j) u:=by
 unfold elL frobs; rw[lst_get _ hj,eli_ci]
theorem IndS.congr7 {F:Type} [FF F] {d n:Nat} {l l':Nat→F} (h:IndS d n l)(he:∀ j,j<n→l j=l' j):IndS d n l':=fun c hc hz=>h c hc (by rw[←hz]; exact rsum_congr fun j hj=>by rw[he j hj])
theorem nrm_bas (F:FD){d:Nat} (hdv:divB F.m d=true)(x:Int):(NrmI F d (F.m / d) x→(basE F (frobs d (eli F.toDesc x) (F.m / d)) d==0)=true)∧(¬ NrmI F d (F.m / d) x→(basE F (frobs d (eli F.toDesc x) (F.m / d)) d==0)=false):=by
 have hl:(frobs d (eli F.toDesc x) (F.m / d)).length=F.m / d:=frobs_length _ _ _;have he:NrmI F d (F.m / d) x↔IndS d (F.m / d) (elL F (frobs d (eli F.toDesc x) (F.m / d))) :=
  ⟨fun h=>IndS.congr7 h fun j hj=>(elL_frobs F d _ _ hj).symm,fun h=>IndS.congr7 h fun j hj=>elL_frobs F d _ _ hj⟩
 refine⟨fun h=>?_,fun h=>?_⟩
 ·rw[basE_ok hdv ⟨hl,he.1 h⟩]; rfl
 ·rw[basE_bad hdv (fun e=>h (he.2 e.2))]; rfl
theorem upI_prefix {p:List Int} {x:Int} {q:Nat} (h:p ++ [x] <+: upI q):∃ k:Nat,k<q∧x=(k:Int)∧∀ j:Nat,j<k→(j:Int)∈p:=by
 obtain⟨t,ht⟩:=h;have hl:(upI q).length=q:=by unfold upI; simp
 have hg:∀ i,i<q→(upI q)[i]?=some (i:Int):=fun i hi=>by unfold upI; rw[List.getElem?_map,List.getElem?_range hi]; rfl
 have hpl:p.length<q:=by rw[←hl,←ht]; simp
 refine⟨p.length,hpl,?_,fun j hj=>?_⟩
 ·have h1:=hg p.length hpl;rw[←ht,List.append_assoc,List.getElem?_append_right (Nat.le_refl _),Nat.sub_self]at h1
  simpa using h1
 ·have h1:=hg j (by omega);rw[←ht,List.append_assoc,List.getElem?_append_left hj]at h1;exact List.mem_of_getElem? h1

end
section
open Go.RowKit Go.Shelf Cw
attribute [local go_sem] Oper.semAt_some

theorem ownFrom_cell {β:Type} {B:Nat} (b:Nat)(hb:b<B)(f:β→Value):OwnFrom B (fun (s:β) W=>W.cell? ⟨b,0,none⟩=some (f s)) :=
 fun _ _ _ _ hs hg hr=>hg.cell hs (fun e=>by have h:B≤b:=(hr _ e.symm).1; omega)

set_option maxRecDepth 100000 in
set_option maxHeartbeats 4000000 in
theorem tNormal_yes (D:FD)(d n k0:Nat)(g:Nat)(w:World)(hg:GF w w.heap.size g D)(hd1:1≤d)(hd2:d∣D.m)(hn:D.m / d=n)(hk0:IsNrm D d n k0) :
  Calls Tryz.prog 222 #[.pointer (some ⟨g,0,none⟩),.int .i64 d] w fun e w'=>e=.returned (.tuple #[.int .i64 k0,.int .i64 0])∧Below w.heap.size w w':=by
 have hdv:=divB_of hd1 hd2 D.m1;have hd8:d≤8:=Nat.le_trans (Nat.le_of_dvd D.m1 hd2) D.m8;have hn8:n≤8:=by rw[←hn]; exact Nat.le_trans (Nat.div_le_self _ _) D.m8
 have hI:=fun W hg=>isDegree_any D d g W hg
 rw[hdv]at hI;have hEa:=fun x W h=>teach_any D x d g W h hd1 hd8
 have hBa:=fun x Al cl W a b=>tIsBasis_any D (frobs d (eli D.toDesc x) n) d Al cl g W a b (by rw[frobs_length]; unfold maxLen; omega)
 have hNB:=fun x=>nrm_bas D hdv x
 rw[hn]at hEa hNB;obtain⟨W0,hW0⟩:∃ W0,W0=(((w.alloc (.cells #[.pointer (some ⟨g,0,none⟩)] 105)).alloc (.cells #[.int .i64 d] 3)).alloc (.cells #[.int .i64 0] 3)).alloc (.cells #[.int .i64 0] 29):=⟨_,rfl⟩;have hB:Below w.heap.size w W0:=by rw[hW0]; exact ((((Below.refl _ _).alloc (Nat.le_refl _) _).alloc (by simp) _).alloc (by simp; omega) _).alloc (by simp; omega) _
 have hI2:=Lib.hid (hI W0 ((hg.below hB).more hB.size));have hs0:W0.heap.size=w.heap.size+4:=by rw[hW0]; simp
 have c0:W0.cell? ⟨w.heap.size,0,none⟩=some (.pointer (some ⟨g,0,none⟩)):=by rw[hW0]; simp[go_sem]
 have c1:W0.cell? ⟨w.heap.size+1,0,none⟩=some (.int .i64 d):=by rw[hW0]; simp[go_sem]
 have c2:W0.cell? ⟨w.heap.size+2,0,none⟩=some (.int .i64 0):=by rw[hW0]; simp[go_sem]
 have c3:W0.cell? ⟨w.heap.size+3,0,none⟩=some (.int .i64 0):=by rw[hW0]; simp[go_sem]
 have f2:W0.frozen? ⟨w.heap.size+2,0,none⟩=false:=by rw[hW0]; simp[go_sem]
 have f3:W0.frozen? ⟨w.heap.size+3,0,none⟩=false:=by rw[hW0]; simp[go_sem]
 replace hW0:=Lib.hid hW0;replace hn:=Lib.hid hn;replace hdv:=Lib.hid hdv;replace hs0:=Lib.hid hs0;clear hI;refine (callsIn_wide (n:=3)).1 ?_;refine callsIn_of_wp_marks Tryz.func222 rfl trivial ?_ rfl;simp only[Tryz.ntmps222,List.size_toArray,List.length_cons,List.length_nil,Nat.reduceAdd,Nat.reduceSub,Array.replicate_succ,Array.replicate_zero,List.push_toArray,List.append_toArray,List.nil_append,List.cons_append];have hmx:Tryz.prog.follows .mixedOrders=true:=by kernel_rfl
 gi_wp2_with (fail)
 rw[←hW0.out];refine⟨trivial,(callsIn_wide.2 hI2.out).mono ?_⟩;rintro e w1 ⟨rfl,hb1⟩;have hs1:w.heap.size+3<w1.heap.size:=by have:=hb1.size; have:=hs0.out; omega
 have d0:=(hb1.cell (p:=⟨w.heap.size,0,none⟩) (by have:=hs0.out; show w.heap.size<_; omega)).trans c0;have d1:=(hb1.cell (p:=⟨w.heap.size+1,0,none⟩) (by have:=hs0.out; show w.heap.size+1<_; omega)).trans c1;have d2:=(hb1.cell (p:=⟨w.heap.size+2,0,none⟩) (by have:=hs0.out; show w.heap.size+2<_; omega)).trans c2;have d3:=(hb1.cell (p:=⟨w.heap.size+3,0,none⟩) (by have:=hs0.out; show w.heap.size+3<_; omega)).trans c3;have e2:=(hb1.frozen (p:=⟨w.heap.size+2,0,none⟩) (by have:=hs0.out; show w.heap.size+2<_; omega)).trans f2;have e3:=(hb1.frozen (p:=⟨w.heap.size+3,0,none⟩) (by have:=hs0.out; show w.heap.size+3<_; omega)).trans f3;have hB1:=hB.trans (hb1.mono hB.size);have hg1:=hg.below hB1;have hgl:g<w.heap.size:=hg.lt;clear c0 c1 c2 c3 f2 f3 hI2 hb1 hB
 gi_wp2_with (fail)
 refine⟨trivial,(elements_in Fence.wide _ trivial rfl g _).mono ?_⟩;rintro e w2 ⟨rfl,rfl⟩;have bN:=Boxed.new w1 105 (.pointer (some ⟨g,0,none⟩));have hB0:Below w1.heap.size w1 (w1.alloc (.cells #[.pointer (some ⟨g,0,none⟩)] 105)):=(Below.refl _ w1).alloc (Nat.le_refl _) _
 gi_wp2_with (fail)
 refine wpIn_rangeFunc_ownG rfl (by omega) (gf:=260) (lb:=#[.pointer (some ⟨w1.heap.size,0,none⟩)]) rfl trivial (enters_of Tryz.func260 (by kernel_rfl) rfl)
  (elements_stops Fence.wide _ trivial rfl (by omega) w1.heap.size w1.heap.size g D _ (by simp) (by simp) (by omega) bN.cell ((hB0.cell (p:=⟨g,3,none⟩) (by show g<_; omega)).trans hg1.c3)) belowK_t (belowK_b (by simp)) (Below.refl _ _) (fun _=>rfl)
  (fun pre W=>(∀ y,y∈pre→¬ NrmI D d n y)∧Below w1.heap.size w1 W)
  (fun c pre W=>(c=.ret∧∃ p x,pre=p ++ [x]∧(∀ y,y∈p→¬ NrmI D d n y)∧NrmI D d n x)∧(W.cell? ⟨w.heap.size+2,0,none⟩=some (.int .i64 (pre.getLast?.getD 0))∧W.cell? ⟨w.heap.size+3,0,none⟩=some (.int .i64 0))∧Below w.heap.size w W)
  ((ownFrom_pure _ _).and (ownFrom_below (Nat.le_refl _) (by simp)))
  (fun c=>(ownFrom_pure _ _).and (((ownFrom_cell (w.heap.size+2) (by simp; omega) (fun pre:List Int=>Value.int .i64 (pre.getLast?.getD 0))).and (ownFrom_cell (w.heap.size+3) (by simp; omega) (fun _:List Int=>Value.int .i64 0))).and (ownFrom_below (Nat.le_refl _) (by simp; omega))))
  ⟨fun y hy=>by simp at hy,hB0⟩
  (fun x=>{ tmps:=#[.pointer (some ⟨g,0,none⟩),.int .i64 d,.pointer (some ⟨w.heap.size,0,none⟩),.pointer (some ⟨w.heap.size+1,0,none⟩),.pointer (some ⟨w.heap.size+2,0,none⟩),.pointer (some ⟨w.heap.size+3,0,none⟩),.int .i64 x,.pointer (some ⟨g,0,none⟩),.int .i64 d,.bool true,.bool false,.pointer (some ⟨g,0,none⟩),.func (.func 260) #[] #[.pointer (some ⟨w1.heap.size,0,none⟩)],.int .i64 x,undef,undef,undef,undef,undef,undef,undef,undef],defers:=[] }) ?assign ?body ?done ?stop
 case assign =>
  intro l x W K hK
  gi_wp2
  exact hK
 case body =>
  rintro l pre x W ⟨hP,hBW⟩ hlt;have hsW:=hBW.size;have cG:=(hBW.cell (p:=⟨w.heap.size,0,none⟩) (by show w.heap.size<_; omega)).trans d0;have cD:=(hBW.cell (p:=⟨w.heap.size+1,0,none⟩) (by show w.heap.size+1<_; omega)).trans d1;have r2:=(hBW.cell (p:=⟨w.heap.size+2,0,none⟩) (by show w.heap.size+2<_; omega)).trans d2;have r3:=(hBW.cell (p:=⟨w.heap.size+3,0,none⟩) (by show w.heap.size+3<_; omega)).trans d3;have z2:=(hBW.frozen (p:=⟨w.heap.size+2,0,none⟩) (by show w.heap.size+2<_; omega)).trans e2;have z3:=(hBW.frozen (p:=⟨w.heap.size+3,0,none⟩) (by show w.heap.size+3<_; omega)).trans e3;have hgW:GF W W.heap.size g D:=((hg1.more (by omega)).below hBW).more hBW.size;have hgd:GF W.drew W.drew.heap.size g D:=hgW.drew;have hE1:=Lib.hid (hEa x W.drew hgd);have hBx:=hBa x;rw[frobs_length]at hBx;have hE2:Hid (Calls Tryz.prog 210 #[.pointer (some ⟨g,0,none⟩),.int .i64 x,.int .i64 d] W.drew fun e w'=>∃ g1,e=.returned (.slice (some ⟨g1,0,none⟩) n n)∧w'.cell? ⟨w.heap.size,0,none⟩=some (.pointer (some ⟨g,0,none⟩))∧w'.cell? ⟨w.heap.size+1,0,none⟩=some (.int .i64 d)∧Hid (IB w' g1 (frobs d (eli D.toDesc x) n))∧Hid (Below W.drew.heap.size W.drew w')) :=
   Lib.hid (hE1.out.mono (by rintro e w' ⟨g1,rfl,-,h2,h3⟩; exact⟨g1,rfl,(h3.cell (p:=⟨w.heap.size,0,none⟩) (by show w.heap.size<W.heap.size; omega)).trans cG,(h3.cell (p:=⟨w.heap.size+1,0,none⟩) (by show w.heap.size+1<W.heap.size; omega)).trans cD,Lib.hid h2,Lib.hid h3⟩))
  obtain⟨bb,hbb⟩:∃ bb,bb=(basE D (frobs d (eli D.toDesc x) n) d==0):=⟨_,rfl⟩;have hNx:=hNB x;rw[←hbb]at hNx hBx;have hI3:∀ g1 W',Hid (IB W' g1 (frobs d (eli D.toDesc x) n))→Hid (Below W.drew.heap.size W.drew W')→Hid (Calls Tryz.prog 84 #[.pointer (some ⟨g,0,none⟩),.slice (some ⟨g1,0,none⟩) n n,.int .i64 d] W' fun e w'=>e=.returned (.bool bb)∧w'.cell? ⟨w.heap.size,0,none⟩=some (.pointer (some ⟨g,0,none⟩))∧w'.cell? ⟨w.heap.size+1,0,none⟩=some (.int .i64 d)∧Hid (Below W.drew.heap.size W.drew w')):=fun g1 W' h1 h2 =>
   Lib.hid ((hBx (some ⟨g1,0,none⟩) n W' ((hgd.below h2.out).more h2.out.size) h1.out.rd).mono (by
    rintro e w' ⟨rfl,h3⟩;have h4:=h2.out.trans (h3.mono h2.out.size);exact⟨rfl,(h4.cell (p:=⟨w.heap.size,0,none⟩) (by show w.heap.size<W.heap.size; omega)).trans cG,(h4.cell (p:=⟨w.heap.size+1,0,none⟩) (by show w.heap.size+1<W.heap.size; omega)).trans cD,Lib.hid h4⟩))
  replace hbb:=Lib.hid hbb;replace hNx:=Lib.hid hNx;clear hE1 hBx hEa hBa hNB
  gi_wp2
  gi_region_with_o (first
   | (refine⟨trivial,?_⟩; gi_at_call 210; refine (CallsIn.inRound l (callsIn_wide.2 hE2.out)).mono ?_; rintro e w3 ⟨g1,rfl,cG3,cD3,hib3,hb3⟩; have hI4:=hI3 g1 w3 hib3 hb3)
   | (refine⟨trivial,?_⟩; gi_at_call 84; refine (CallsIn.inRound l (callsIn_wide.2 hI4.out)).mono ?_; rintro e w4 ⟨rfl,cG4,cD4,hb4⟩))
  all_goals
   have hb5:Below W.heap.size W w4:=((Below.refl _ W).drew).trans hb4.out;have hko:KeepsOthers W w4:=KeepsOthers.of_grownBy (below_grown hb5 (Nat.le_refl _)) (fun j o ej=>by cases ej);have hb6:Below w1.heap.size W w4:=hb5.mono hBW.size;have q2:=(hb5.cell (p:=⟨w.heap.size+2,0,none⟩) (by show w.heap.size+2<W.heap.size; omega)).trans r2;have q3:=(hb5.cell (p:=⟨w.heap.size+3,0,none⟩) (by show w.heap.size+3<W.heap.size; omega)).trans r3;have p2:=(hb5.frozen (p:=⟨w.heap.size+2,0,none⟩) (by show w.heap.size+2<W.heap.size; omega)).trans z2;have p3:=(hb5.frozen (p:=⟨w.heap.size+3,0,none⟩) (by show w.heap.size+3<W.heap.size; omega)).trans z3;clear cG3 cD3 cG4 cD4 r2 r3 z2 z3 hb3 hib3 hE2 hI3 hI4;by_cases hnx:NrmI D d n x
   ·have hbt:=hNx.out.1 hnx;subst hbt;replace hnx:=Lib.hid hnx
    gi_wp2
    have s1:(w4.setCell ⟨w.heap.size+2,0,none⟩ (.int .i64 x)).cell? ⟨w.heap.size+2,0,none⟩=some (.int .i64 x):=World.cell?_setCell_same _ _ _ q2;have s2:(w4.setCell ⟨w.heap.size+2,0,none⟩ (.int .i64 x)).cell? ⟨w.heap.size+3,0,none⟩=some (.int .i64 0):=(World.cell?_setCell_far _ _ _ _ (by show w.heap.size+2≠w.heap.size+3; omega)).trans q3;refine⟨((hko.from _).trans (KeepsFrom.of_grownBy (grown_set w4 ⟨w.heap.size+2,0,none⟩ (.int .i64 x)) (fun j e=>by injection e with e; have h:w.heap.size+2=j:=e; first | omega | (rw[World.size_alloc]; omega)))).trans (KeepsFrom.of_grownBy (grown_set _ ⟨w.heap.size+3,0,none⟩ (.int .i64 0)) (fun j e=>by injection e with e; have h:w.heap.size+3=j:=e; first | omega | (rw[World.size_alloc]; omega))),⟨rfl,pre,x,rfl,hP,hnx.out⟩,⟨?_,World.cell?_setCell_same _ _ _ s2⟩,?_⟩
    ·rw[List.getLast?_append];exact (World.cell?_setCell_far _ _ _ _ (by show w.heap.size+3≠w.heap.size+2; omega)).trans s1
    ·exact ((hB1.trans ((hBW.trans hb6).mono (by omega))).setCell (p:=⟨w.heap.size+2,0,none⟩) (by simp) _).setCell (p:=⟨w.heap.size+3,0,none⟩) (by simp) _
   ·have hbf:=hNx.out.2 hnx;subst hbf;have hP2:∀ y,y∈pre ++ [x]→¬ NrmI D d n y:=fun y hy=>by
     rcases List.mem_append.1 hy with h | h
     ·exact hP y h
     ·rw[List.mem_singleton.1 h]; exact hnx
    replace hP2:=Lib.hid hP2;clear hnx
    gi_wp2
    exact⟨hko.from _,hb6,hP2.out,hBW.trans hb6⟩
 case done =>
  rintro D' ys W hD rfl ⟨hP,hBW⟩ hK;exact absurd hk0.2.1 (hP _ (by unfold upI; exact List.mem_map.2 ⟨k0,List.mem_range.2 hk0.1,rfl⟩))
 case stop =>
  rintro D' c pre W hD hSp ⟨⟨rfl,p,x,rfl,hP,hnx⟩,⟨hc2,hc3⟩,hBW⟩ hK;obtain⟨k,hkq,rfl,hall⟩:=upI_prefix hSp;obtain rfl:k=k0:=IsNrm.uniq (F:=D) (d:=d) (n:=n) ⟨hkq,hnx,fun j hj=>hP _ (hall j hj)⟩ hk0;rw[List.getLast?_append]at hc2;have hc2':W.cell? ⟨w.heap.size+2,0,none⟩=some (.int .i64 k):=by simpa using hc2
  have hDl:w.heap.size+3<D':=by simp at hD; omega
  have key2:∀ o,(W.putObj D' o).cell? ⟨w.heap.size+2,0,none⟩=some (.int .i64 k):=fun o=>(grownBy_putObj' W D' o).cell hc2' (fun e=>by injection e with e; have h:w.heap.size+2=D':=e; omega)
  have key3:∀ o,(W.putObj D' o).cell? ⟨w.heap.size+3,0,none⟩=some (.int .i64 0):=fun o=>(grownBy_putObj' W D' o).cell hc3 (fun e=>by injection e with e; have h:w.heap.size+3=D':=e; omega)
  have hbl:∀ o,Below w.heap.size w (W.putObj D' o):=fun o=>hBW.trans ((belowK_b (w:=w1) (n₀:=w.heap.size) (by omega) W D' _ o (by simp at hD; omega) hK rfl rfl))
  clear hP hall hc2 hc3
  gi_wp2
  refine⟨by simp,.inl ⟨_,_,rfl,run_takeDeferred hK,?_⟩⟩;refine⟨.tuple #[.int .i64 k,.int .i64 0],by simp[results,Tryz.results222,go_sem,key2,key3],rfl,hbl _⟩
end
end Go.Proofs.YtjdoneanohhkmaaGreat
