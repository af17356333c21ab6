/- The reference of layer 7: IsBasis. -/
import Derived.Test.YtogfekjbpcfgmaaGreatZtCTowA
import Derived.Test.YtogfekjbpcfgmaaGreatZtCBasX
import Derived.Test.YtogfekjbpcfgmaaGreatZtCGpoA
import Derived.Test.YtogfekjbpcfgmaaGreatZtCTk
namespace Go.Proofs.YtogfekjbpcfgmaaGreat
open Go.RowKit Cw
attribute [local go_sem] Oper.semAt_some

theorem subL_mem (D:FD)(d:Nat)(u:R D.toDesc):ci u∈subL D d D.q↔InSub d u:=by
 unfold subL InSub;simp only[List.mem_map,List.mem_filter,List.mem_range,decide_eq_true_iff];constructor
 ·rintro⟨n,⟨hn,h⟩,e⟩;have e2:n=rcode u:=Int.ofNat.inj e;rw[e2,rel_rcode]at h;exact h
 ·intro h;exact⟨rcode u,⟨rcode_lt u,by rw[rel_rcode]; exact h⟩,rfl⟩
theorem subL_el (D:FD)(d:Nat){x:Int} (h:x∈subL D d D.q):ci (eli D.toDesc x)=x:=by
 unfold subL at h;obtain⟨n,hn,rfl⟩:=List.mem_map.1 h;have hq:=List.mem_range.1 (List.mem_filter.1 hn).1;rw[eli_nat hq]
 show ((rcode (rel D.toDesc n):Nat):Int)=n
 rw[rcode_rel hq]
theorem subL_nodup (D:FD)(d:Nat):(subL D d D.q).Nodup:=by
 unfold subL;exact List.pairwise_map.2 ((List.Pairwise.sublist List.filter_sublist List.nodup_range).imp fun h e=>h (Int.ofNat.inj e))
theorem subL_facts (D:FD){d:Nat} (hd:d∣D.m)(h1:1≤d) :
  (∀ e,e<(subL D d D.q).length→InSub d (elL D (subL D d D.q) e))∧(∀ e e',e<(subL D d D.q).length→e'<(subL D d D.q).length→elL D (subL D d D.q) e=elL D (subL D d D.q) e'→e=e') ∧
   (∀ x,InSub d x→∃ e,e<(subL D d D.q).length∧elL D (subL D d D.q) e=x)∧(subL D d D.q).length ^ (D.m / d)=D.q:=by
 have hin:∀ e,e<(subL D d D.q).length→(subL D d D.q)[e]?.getD 0∈subL D d D.q:=fun e he=>by rw[List.getElem?_eq_getElem he]; exact List.getElem_mem _
 refine⟨fun e he=>?_,fun e e' he he' h=>?_,fun x hx=>?_,?_⟩
 ·rw[←subL_mem]; unfold elL; rw[subL_el D d (hin e he)]; exact hin e he
 ·have e1:=congrArg ci h;unfold elL at e1;rw[subL_el D d (hin e he),subL_el D d (hin e' he'),List.getElem?_eq_getElem he,List.getElem?_eq_getElem he']at e1;have hp:=List.pairwise_iff_getElem.1 (subL_nodup D d);rcases Nat.lt_trichotomy e e' with h2 | h2 | h2
  ·exact absurd e1 (hp e e' he he' h2)
  ·exact h2
  ·exact absurd e1.symm (hp e' e he' he h2)
 ·obtain⟨e,he,h⟩:=List.getElem_of_mem ((subL_mem D d x).2 hx);refine⟨e,he,?_⟩;unfold elL;rw[List.getElem?_eq_getElem he]
  show eli D.toDesc ((subL D d D.q)[e])=x
  rw[h,eli_ci]
 ·have hc:(subL D d D.q).length=D.p ^ d:=by
   unfold subL;rw[List.length_map];exact sub_count (F:=R D.toDesc) hd h1
  rw[hc,←Nat.pow_mul,Nat.mul_div_cancel' hd]; rfl
theorem keep6d {B b b1 o1 b2 o2 b3 o3:Nat} {W w1:World} {v0 v1 v2 v3 v4 v5:Value} (hb:Below B W w1)(h2:b<B)(h3:b1<B)(h5:b2<B)(h6:b3<B)(h4:W.cell? ⟨b,0,none⟩=some v0∧W.cell? ⟨b,1,none⟩=some v1∧W.cell? ⟨b,2,none⟩=some v2∧W.cell? ⟨b1,o1,none⟩=some v3∧W.cell? ⟨b2,o2,none⟩=some v4∧W.cell? ⟨b3,o3,none⟩=some v5) :
  w1.cell? ⟨b,0,none⟩=some v0∧w1.cell? ⟨b,1,none⟩=some v1∧w1.cell? ⟨b,2,none⟩=some v2∧w1.cell? ⟨b1,o1,none⟩=some v3∧w1.cell? ⟨b2,o2,none⟩=some v4∧w1.cell? ⟨b3,o3,none⟩=some v5 :=
 have k:=keep3 hb h2 ⟨h4.1,h4.2.1,h4.2.2.1⟩
 ⟨k.1,k.2.1,k.2.2,(hb.cell (p:=⟨b1,o1,none⟩) h3).trans h4.2.2.2.1,(hb.cell (p:=⟨b2,o2,none⟩) h5).trans h4.2.2.2.2.1,(hb.cell (p:=⟨b3,o3,none⟩) h6).trans h4.2.2.2.2.2⟩
theorem mem_take7 {l:List Int} {k:Nat} {x:Int} (h:x∈l.take k):∃ j,j<k∧j<l.length∧l[j]?.getD 0=x:=by
 obtain⟨j,hj,e⟩:=List.getElem_of_mem h;rw[List.length_take]at hj;refine⟨j,by omega,by omega,?_⟩;rw[List.getElem_take]at e;rw[List.getElem?_eq_getElem (by omega:j<l.length)];exact e

set_option maxHeartbeats 2000000 in
theorem IsB7_no (F:FD)(l:List Int)(d:Int)(A Al:Option Addr)(c cl:Nat)(w:World)(hl:l.length≤maxLen)(hno:¬ (divB F.m d=true∧l.length=F.m / d.toNat)) :
  Calls Tryz.prog 55 #[.agg #[.int .i64 F.p,.int .i64 F.m,.slice A F.mod.length c],.slice Al l.length cl,.int .i64 d] w fun e w'=>e=.returned (.bool false)∧Below w.heap.size w w':=by
 unfold maxLen at hl;have hV:=fun W=>Divides_any F.toDesc d A F.mod.length c W
 have hB:Below w.heap.size w (w.alloc (.cells #[.int .i64 F.p,.int .i64 F.m,.slice A F.mod.length c] 24)):=(Below.refl _ _).alloc (Nat.le_refl _) _;have hbx:=Bx.new w F.toDesc A F.mod.length c 24;by_cases hdv:divB F.m d=true
 ·obtain⟨dn,rfl,hk1,hkm,hkd⟩:=divB_nat hdv;have hfm8:=F.m8;obtain⟨n,hn⟩:∃ n,n=F.m / dn:=⟨_,rfl⟩;have hn8:n≤8:=by rw[hn]; exact Nat.le_trans (Nat.div_le_self _ _) F.m8
  rw[hdv]at hV;have hq:((l.length:Int) !=(n:Int))=true:=by
   rw[bne_iff_ne]; intro e;exact hno ⟨hdv,by rw[Int.toNat_natCast,←hn]; omega⟩
  have hdq:Hid ((F.m:Int) / (dn:Int)=(n:Int)):=by unfold Hid; rw[hn]; rfl
  have hd0:¬ dn=0:=by omega
  have hq3:¬ (l.length:Int)=(n:Int):=by rw[bne_iff_ne]at hq; exact hq
  have hq4:¬ l.length=n:=by omega
  replace hV:=fun W=>Lib.hid (hV W)
  clear hno hdv hkd hn;go_enter Tryz.func55,Tryz.ntmps55;go_wp2_with (fail);(with_reducible refine (hV _).out.mono ?_);rintro e w1 ⟨rfl,hb1⟩;obtain⟨q0,q1,q2⟩:=(hbx.below hb1 (by simp)).cells;have hdq':=hdq.out;go_wp2_with (fail);go_ret;exact⟨rfl,hB.trans (hb1.mono hB.size)⟩
 ·rw[Bool.not_eq_true]at hdv;rw[hdv]at hV;replace hV:=fun W=>Lib.hid (hV W)
  clear hno hdv;go_enter Tryz.func55,Tryz.ntmps55;go_wp2_with (fail);(with_reducible refine (hV _).out.mono ?_);rintro e w1 ⟨rfl,hb1⟩;go_wp2_with (fail);go_ret;exact⟨rfl,hB.trans (hb1.mono hB.size)⟩

set_option maxRecDepth 100000 in
set_option maxHeartbeats 8000000 in
theorem IsB7_yes (F:FD)(l:List Int)(d n:Nat)(A Al:Option Addr)(c cl:Nat)(w:World)(hr:Rd w w.heap.size A (modL F.toDesc))(hrl:Rd w w.heap.size Al l)(hd1:1≤d)(hdm:d≤F.m)(hkd:d∣F.m)(hn:F.m / d=n)(hln:l.length=n) :
  Calls Tryz.prog 55 #[.agg #[.int .i64 F.p,.int .i64 F.m,.slice A F.mod.length c],.slice Al n cl,.int .i64 d] w fun e w'=>e=.returned (.bool (basE F l d==0))∧Below w.heap.size w w':=by
 have hfm8:=F.m8; have hfm1:=F.m1;have hd8:d≤8:=by omega
 have hn8:n≤8:=by rw[←hn]; exact Nat.le_trans (Nat.div_le_self _ _) F.m8
 have hdv:=divB_of hd1 hkd F.m1;have hV:=fun W=>Divides_any F.toDesc d A F.mod.length c W
 rw[hdv]at hV;obtain⟨f1,f2,f3,f4⟩:=subL_facts F hkd hd1;have hSb:=fun W h=>Subfield7_any F d A c W h hd8
 have hO:=fun W=>Order_any F.p F.m A F.mod.length c W (by have:=F.p256; omega) (by omega)
 rw[qOf_D]at hO;have hMl:=fun x y W h=>Mul_any F.toDesc x y A c W h
 have hAd:=fun x y W=>Add_any F.toDesc x y A F.mod.length c W
 have hq3:=F.q256;have hmk:=mk_bools F.q (by omega);obtain⟨s,hs⟩:∃ s,s=subL F d F.q:=⟨_,rfl⟩;rw[←hs]at f1 f2 f3 f4 hSb;obtain⟨S,hS⟩:∃ S,S=s.length:=⟨_,rfl⟩;have hS0:0<S:=by
  rw[hS];obtain⟨e,he,-⟩:=f3 0 (InSub.zero d);omega
 rw[←hS,hn]at f4;have hind:=smA_ind (n:=n) (u:=elL F l) hS0 (by rw[hS]; exact f1) (by rw[hS]; exact f2) (by rw[hS]; exact f3);have hsm0:smA S (elL F s) (elL F l) 0 0=0:=rfl;have hsms:∀ i j k,k<S→smA S (elL F s) (elL F l) (i+1) (j*S+k)=smA S (elL F s) (elL F l) i j+elL F s k*elL F l i:=fun i j k hk=>by
  show smA S (elL F s) (elL F l) i ((j*S+k) / S)+elL F s ((j*S+k) % S)*elL F l i=_
  rw[show (j*S+k) % S=k by rw[Nat.add_comm,Nat.add_mul_mod_self_right,Nat.mod_eq_of_lt hk],show (j*S+k) / S=j by rw[Nat.add_comm,Nat.add_mul_div_right _ _ hS0,Nat.div_eq_of_lt hk,Nat.zero_add]]
 have hpow:∀ i,i≤n→S ^ i≤256:=fun i hi=>Nat.le_trans (Nat.pow_le_pow_right hS0 hi) (by rw[f4]; exact hq3)
 have h0:IndS d n (elL F l)→basE F l d=0:=fun h=>basE_ok hdv (by unfold BasP; rw[hn]; exact⟨hln,h⟩)
 have h9:¬ IndS d n (elL F l)→basE F l d=9:=fun h=>basE_bad hdv (by unfold BasP; rw[hn]; exact fun e=>h e.2)
 rw[hind,f4]at h0 h9;generalize smA S (elL F s) (elL F l)=sm at *;have hdq:Hid ((F.m:Int) / (d:Int)=(n:Int)):=by unfold Hid; rw[←hn]; rfl
 have hd0:¬ d=0:=by omega
 have hSl:S≤256∨n=0:=by
  rcases Nat.eq_zero_or_pos n with e | e
  ·exact .inr e
  ·have:=hpow 1 e; rw[Nat.pow_one]at this; exact .inl this
 have hB0:Below w.heap.size w (w.alloc (.cells #[.int .i64 F.p,.int .i64 F.m,.slice A F.mod.length c] 24)):=(Below.refl _ _).alloc (Nat.le_refl _) _;have hbx:=Bx.new w F.toDesc A F.mod.length c 24;replace hV:=fun W=>Lib.hid (hV W)
 replace hSb:=fun W h=>Lib.hid (hSb W h)
 replace hO:=fun W=>Lib.hid (hO W)
 replace hMl:=fun x y W h=>Lib.hid (hMl x y W h)
 replace hAd:=fun x y W=>Lib.hid (hAd x y W)
 replace hsm0:=Lib.hid hsm0;replace hsms:=Lib.hid hsms;replace hpow:=Lib.hid hpow;replace h0:=Lib.hid h0;replace h9:=Lib.hid h9;replace hln:=Lib.hid hln;replace hS:=Lib.hid hS;replace f4:=Lib.hid f4;clear f1 f2 f3 hind hdv hkd hn hs;go_enter Tryz.func55,Tryz.ntmps55;go_wp2_with (fail);(with_reducible refine (hV _).out.mono ?_);rintro e w1 ⟨rfl,hb1⟩;have hB1:=hB0.trans (hb1.mono hB0.size);have hs1:w.heap.size<w1.heap.size:=by have:=hb1.size; simp only[World.size_alloc]at this; omega
 have hbx1:=hbx.below hb1 (by simp);obtain⟨q0,q1,q2⟩:=hbx1.cells;have hdq':=hdq.out;have hSb1:=hSb w1 ((hr.below hB1).more hB1.size);go_wp2_with (fail);(with_reducible refine hSb1.out.mono ?_);rintro e w2 ⟨v,rfl,hown,hb2⟩;clear hdq' q0 q1 q2 hSb1 hSb hV;have hB2:=hB1.trans (hb2.mono hB1.size);have hbx2:=hbx1.below hb2 hs1;have hs2:=Nat.lt_of_lt_of_le hs1 hb2.size;obtain⟨As,cs,rfl,-,hrs,-⟩:=hown.form;rw[←hS.out];have hib0:=IB.new w2 [0];have hbA:Below w2.heap.size w2 (w2.alloc (.cells #[.int .i64 0] 3)):=(Below.refl _ _).alloc (Nat.le_refl _) _;obtain⟨Y,hY⟩:∃ Y,Y=w2.alloc (.cells #[.int .i64 0] 3):=⟨_,rfl⟩;have hr0:Rd Y Y.heap.size (some ⟨w2.heap.size,0,none⟩) (lst 1 fun t=>ci (sm 0 t)):=by
  rw[hY,show lst 1 (fun t=>ci (sm 0 t))=[0] from by show [ci (sm 0 0)]=[0]; rw[hsm0.out,ci_zero]];exact hib0.rd
 rw[←hY]at hbA;have hBY:=hB2.trans (hbA.mono hB2.size);have hbxY:=hbx2.below hbA hs2;have hrsY:=(hrs.below hbA).more hbA.size;have hsY:=Nat.lt_of_lt_of_le hs2 hbA.size;replace hY:=Lib.hid hY;clear hib0 hown hb1 hb2 hbx1 hbx2 hbx hB1 hB2 hB0 hs1 hs2 hrs;go_wp2_with (fail);rw[←hY.out];go_loopw [9,8,10,11,12] (fun iS sS _ _ _ wr=>∃ (i Ni:Nat) (Aq:Option Addr) (cq:Nat),i≤n∧Hid (Ni=S ^ i)∧iS=.int .i64 i∧sS=.slice Aq Ni cq∧Rd wr wr.heap.size Aq (lst Ni fun t=>ci (sm i t))∧Bx wr w.heap.size F.toDesc A F.mod.length c∧Rd wr wr.heap.size As s∧Below w.heap.size w wr∧w.heap.size<wr.heap.size) (fun iS _ _ _ _ _=>n - (intOf iS).toNat)
 case atStart=>exact⟨0,1,_,_,by omega,rfl,rfl,rfl,hr0,hbxY,hrsY,hBY,hsY⟩
 case round =>
  clear hr0 hbxY hrsY hBY hsY hY hbA;obtain⟨wi,rfl⟩:∃ wi:World,wi=wr:=⟨_,rfl⟩;obtain⟨i,Ni,Aq,cq,hi,hNi,rfl,rfl,hrq,hbx,hrs,hbw,hsz⟩:=hrel;have hNl:Ni≤256:=by rw[hNi.out]; exact hpow.out i hi
  by_cases hin:i<n
  ·have i0:(0:Int)≤(i:Int):=by omega
   have i1:(i:Int)<(n:Int):=by omega
   have hNS:Ni*S≤256:=by rw[hNi.out,←Nat.pow_succ]; exact hpow.out (i+1) (by omega)
   have hS256:S≤256:=by rcases hSl with h | h; exact h; omega
   have hrl1:=(hrl.below hbw).more hbw.size;go_wp2_with (fail);go_loopw [11,10,12] (fun jS nS _ wr=>∃ (j Tj:Nat),j≤Ni∧Hid (Tj=j*S)∧jS=.int .i64 j∧Own wr wi.heap.size nS (lst Tj fun t=>ci (sm (i+1) t))∧Below wi.heap.size wi wr) (fun jS _ _ _=>Ni - (intOf jS).toNat)
   case atStart=>exact⟨0,0,by omega,by unfold Hid; rw[Nat.zero_mul],rfl,Own.nil _ _,Below.refl _ _⟩
   case round =>
    obtain⟨wj,rfl⟩:∃ wj:World,wj=wr:=⟨_,rfl⟩;obtain⟨j,Tj,hj,hTj,rfl,hown,hbj⟩:=hrel;by_cases hjn:j<Ni
    ·have j0:(0:Int)≤(j:Int):=by omega
     have j1:(j:Int)<(Ni:Int):=by omega
     have hT2:Tj+S≤256:=by rw[hTj.out,←Nat.succ_mul]; exact Nat.le_trans (Nat.mul_le_mul_right _ hjn) hNS
     go_wp2_with (fail);go_loopw [12,10] (fun kS nS wr=>∃ k:Nat,k≤S∧kS=.int .i64 k∧Own wr wi.heap.size nS (lst (Tj+k) fun t=>ci (sm (i+1) t))∧Below wi.heap.size wi wr) (fun kS _ _=>S - (intOf kS).toNat)
     case atStart=>exact⟨0,by omega,rfl,hown,hbj⟩
     case round =>
      clear hown hbj;obtain⟨w3,rfl⟩:∃ w3:World,w3=wr:=⟨_,rfl⟩;obtain⟨k,hk,rfl,hown,hb3⟩:=hrel;by_cases hkS:k<S
      ·have k0:(0:Int)≤(k:Int):=by omega
       have k1:(k:Int)<(S:Int):=by omega
       obtain⟨bq,oq,rfl,hbq,hcq⟩:=hrq.at_ (k:=j) (by rw[lst_length]; exact hjn);obtain⟨bs,os,rfl,hbs,hcs⟩:=hrs.at_ (k:=k) (by rw[←hS.out]; exact hkS);obtain⟨bl,ol,rfl,hbl,hcl⟩:=hrl1.at_ (k:=i) (by rw[hln.out]; exact hin);rw[lst_get _ hjn]at hcq;have hcell:=Lib.hid (keep6d hb3 hsz hbq hbs hbl ⟨hbx.cells.1,hbx.cells.2.1,hbx.cells.2.2,hcq,hcs,hcl⟩);have hs3:=hb3.size;have hB3:=hbw.trans (hb3.mono (Nat.le_of_lt hsz));have hM3:=(hMl (s[k]?.getD 0) (l[i]?.getD 0) w3.drew ((hr.below hB3).more hB3.size).drew).out;rw[show eli F.toDesc (s[k]?.getD 0)*eli F.toDesc (l[i]?.getD 0)=elL F s k*elL F l i from rfl]at hM3;have hA3:=fun W=>(hAd (ci (sm i j)) (ci (elL F s k*elL F l i)) W).out
       rw[eli_ci,eli_ci,←hsms.out i j k hkS,←hTj.out]at hA3;have hsuc:lst (Tj+k) (fun t=>ci (sm (i+1) t)) ++ [ci (sm (i+1) (Tj+k))]=lst (Tj+(k+1)) fun t=>ci (sm (i+1) t):=(lst_succ _ _).symm
       have hle:(lst (Tj+k) fun t=>ci (sm (i+1) t)).length+[ci (sm (i+1) (Tj+k))].length≤1000000000:=by rw[lst_length]; simp; omega
       obtain⟨y1,hy1⟩:∃ y,y=s[k]?.getD 0:=⟨_,rfl⟩;obtain⟨y2,hy2⟩:∃ y,y=l[i]?.getD 0:=⟨_,rfl⟩;obtain⟨y3,hy3⟩:∃ y,y=ci (sm i j):=⟨_,rfl⟩;obtain⟨y4,hy4⟩:∃ y,y=ci (elL F s k*elL F l i):=⟨_,rfl⟩;obtain⟨y,hy⟩:∃ y,y=ci (sm (i+1) (Tj+k)):=⟨_,rfl⟩;rw[←hy1,←hy2,←hy3]at hcell;rw[←hy1,←hy2,←hy4]at hM3;rw[←hy3,←hy4,←hy]at hA3;rw[←hy]at hsuc hle;replace hM3:=Lib.hid hM3;replace hA3:=fun W=>Lib.hid (hA3 W)
       replace hsuc:=Lib.hid hsuc;replace hy:=Lib.hid hy;replace hy1:=Lib.hid hy1;replace hy2:=Lib.hid hy2;replace hy3:=Lib.hid hy3;replace hy4:=Lib.hid hy4;clear hcq hcs hcl;go_wp2_with (fail);refine wp_region_held_drew (S:=fun w'=>w'.cell? ⟨w.heap.size,0,none⟩=some (.int .i64 F.p)∧w'.cell? ⟨w.heap.size,1,none⟩=some (.int .i64 F.m)∧w'.cell? ⟨w.heap.size,2,none⟩=some (.slice A F.mod.length c)∧w'.cell? ⟨bq,oq+j,none⟩=some (.int .i64 y3)∧w'.cell? ⟨bs,os+k,none⟩=some (.int .i64 y1)∧w'.cell? ⟨bl,ol+i,none⟩=some (.int .i64 y2)) (by kernel_rfl) (by (try dsimp only); exact hcell.out) (fun hHeld=>?_);refine tk 0 ?_; try simp only[pS]
       refine tk 1 ?_; try simp only[pS]
       refine tk 2 ?_; try simp only[pS]
       refine tk 3 ?_; try simp only[pS]
       refine tk 4 ?_; try simp only[pS]
       refine tk 5 ?_; try simp only[pS]
       refine tk 6 ?_; try simp only[pS]
       refine tk 7 ?_; try simp only[pS]
       refine tk 8 ?_; try simp only[pS]
       refine tk 9 ?_; try simp only[pS]
       refine tk 10 ?_; try simp only[pS]
       refine tk 11 ?_; try simp only[pS]
       refine tk 12 ?_; try simp only[pS]
       refine tk 13 ?_; try simp only[pS]
       refine tk 14 ?_; try simp only[pS]
       refine rd 15 fun K hK=>?_
       go_simp;go_at_call 57;(with_reducible refine (hM3).out.mono ?_);rintro e w4 ⟨rfl,hx4⟩;have hb4:Below wi.heap.size w3 w4:=((Below.refl w3.heap.size w3).drew.trans hx4).mono hs3;have hs4:=hb4.size;have hcell4:=Lib.hid (keep6d hb4 hsz hbq hbs hbl hcell.out);go_wp2_with (fail);refine hK.out _ _ (by (try dsimp only); exact hcell4.out) (fun hHeld=>?_);clear hK K;try simp only[pS]
       refine rd 16 fun K hK=>?_
       go_simp;go_at_call 118;(with_reducible refine (hA3 w4).out.mono ?_);rintro e w5 ⟨rfl,hx5⟩;have hb5:Below wi.heap.size w4 w5:=hx5.mono (Nat.le_trans hs3 hs4);have hs5:=hb5.size;have hcell5:=Lib.hid (keep6d hb5 hsz hbq hbs hbl hcell4.out);have hle5:wi.heap.size≤w5.heap.size:=Nat.le_trans hs3 (Nat.le_trans hs4 hs5);have hbA5:Below w5.heap.size w5 (w5.alloc (.cells #[.int .i64 y] 3)):=(Below.refl _ _).alloc (Nat.le_refl _) _;have hown5:=hown.below ((((Below.refl w3.heap.size w3).drew.trans hx4).trans (hx5.mono hs4)).trans (hbA5.mono (Nat.le_trans hs4 hs5))) (Nat.le_refl _);have hr5:Rd (w5.alloc (.cells #[.int .i64 y] 3)) (w5.heap.size+1) (some ⟨w5.heap.size,0,none⟩) [y]:=by have:=(IB.new w5 [y]).rd; rw[World.size_alloc]at this; exact this
       go_wp2_with (fail);refine hK.out _ _ (by (try dsimp only); exact hcell5.out) (fun hHeld=>?_);clear hK K;try simp only[pS]
       refine rd 17 fun K hK=>?_
       go_simp;refine hK.out _ _ (by (try dsimp only); exact keep6d (hbA5.mono hle5) hsz hbq hbs hbl hcell5.out) (fun hHeld=>?_);clear hK K;try simp only[pS]
       refine rd 18 fun K hK=>?_
       refine step_appN (n2:=1) rfl (.tmp 50) (.tmp 67) rfl wi.heap.size _ (lst (Tj+k) fun t=>ci (sm (i+1) t)) (w5.heap.size+1) (some ⟨w5.heap.size,0,none⟩) 1 [y] hown5 hr5 (by rfl) (by rfl) (by rfl) hle (Nat.le_trans hle5 hbA5.size) ?_;intro v8 w8 ho8 hb8 hg8 hv8;have hcell8:=Lib.hid (keep6d hb8 hsz hbq hbs hbl (keep6d (hbA5.mono hle5) hsz hbq hbs hbl hcell5.out));refine hK.out _ _ (by (try dsimp only); exact hcell8.out) (fun hHeld=>?_);clear hK K;try simp only[pS]
       refine tk 19 ?_; try simp only[pS]
       refine wpAnyH_done (by kernel_rfl) ?_ _;rw[hsuc.out]at ho8;have hb38:=(((hb3.trans hb4).trans hb5).trans (hbA5.mono hle5)).trans hb8;go_wp2_with (fail);go_roundw
       case rel=>exact⟨k+1,by omega,by go_num,ho8,hb38⟩
       case measure=>simp[intOf]; omega
      ·obtain rfl:k=S:=by omega
       have hT3:Hid (Tj+k=(j+1)*k):=by unfold Hid; rw[hTj.out,Nat.succ_mul]
       go_wp2_with (fail);go_roundw
       case rel=>exact⟨j+1,Tj+k,by omega,hT3,by go_num,hown,hb3⟩
       case measure=>simp[intOf]; omega
    ·obtain rfl:j=Ni:=by omega
     have hT3:Hid (Tj=S ^ (i+1)):=by unfold Hid; rw[hTj.out,Nat.pow_succ,←hNi.out]
     obtain⟨Av,cv,rfl,-,hrv,-⟩:=hown.form;rw[lst_length];have hbx3:=hbx.below hbj hsz;have hrs3:=(hrs.below hbj).more hbj.size;have hB3:=hbw.trans (hbj.mono (Nat.le_of_lt hsz));have hsz3:=Nat.lt_of_lt_of_le hsz hbj.size;clear hown;go_wp2_with (fail);go_roundw
     case rel=>exact⟨i+1,Tj,Av,cv,by omega,hT3,by go_num,rfl,hrv,hbx3,hrs3,hB3,hsz3⟩
     case measure=>simp[intOf]; omega
  ·obtain rfl:i=n:=by omega
   obtain⟨L,hL⟩:∃ L,L=lst Ni fun t=>ci (sm i t):=⟨_,rfl⟩
   have hLl:L.length=Ni:=by rw[hL,lst_length]
   have hNq:Ni=F.q:=by rw[hNi.out,f4.out]
   have hLg:∀ k,k<Ni→L[k]?.getD 0=((rcode (sm i k):Nat):Int):=fun k hk=>by rw[hL,lst_get _ hk]; rfl
   rw[←hL]at hrq;obtain⟨q0,q1,q2⟩:=hbx.cells;have hO1:=hO wi;replace hL:=Lib.hid hL;replace hLl:=Lib.hid hLl;replace hNq:=Lib.hid hNq;replace hLg:=Lib.hid hLg;go_wp2_with (fail);(with_reducible refine hO1.out.mono ?_);rintro e w7 ⟨rfl,hb7⟩;have hrq7:=(hrq.below hb7).more hb7.size;have hB7:=hbw.trans (hb7.mono hbw.size);clear hrq hbx hrs q0 q1 q2 hO1 hO;have hb0:=BB.newz w7 F.q;have hbA:Below w7.heap.size w7 (w7.alloc (.cells (Array.replicate F.q (Value.bool false)) 4)):=(Below.refl _ _).alloc (Nat.le_refl _) _;go_wp2_with (fail);obtain⟨gI,hgI⟩:∃ gI,gI=w7.heap.size:=⟨_,rfl⟩;rw[←hgI]at hb0;simp only[←hgI];have hgI2:w7.heap.size≤gI:=Nat.le_of_eq hgI.symm;replace hgI:=Lib.hid hgI;clear hmk;go_loopw [14] (fun kS wr=>∃ k:Nat,k≤Ni∧kS=.int .i64 k∧BB wr gI F.q (fun x=>decide ((x:Int)∈L.take k))∧Hid (∀ t t',t<t'→t'<k→sm i t≠sm i t')∧Below w7.heap.size w7 wr) (fun kS _=>Ni - (intOf kS).toNat)
   case atStart=>exact⟨0,by omega,rfl,by simpa using hb0,fun t t' h1 h2=>absurd h2 (by omega),hbA⟩
   case round =>
    clear hb0 hbA;obtain⟨w8,rfl⟩:∃ w8:World,w8=wr:=⟨_,rfl⟩;obtain⟨k,hk,rfl,hbb,hdis,hb8⟩:=hrel;have hrq8:=(hrq7.below hb8).more hb8.size;have hB8:=hB7.trans (hb8.mono hB7.size);by_cases hkN:k<Ni
    ·have k0:(0:Int)≤(k:Int):=by omega
     have k1:(k:Int)<(Ni:Int):=by omega
     obtain⟨bq,oq,rfl,hbq,hcq⟩:=hrq8.at_ (k:=k) (by rw[hLl.out]; exact hkN);have hy:=hLg.out k hkN;obtain⟨y,hyv⟩:∃ y,y=rcode (sm i k):=⟨_,rfl⟩;have hyq:y<F.q:=by rw[hyv]; exact rcode_lt _
     rw[←hyv]at hy;rw[hy]at hcq;have y0:(0:Int)≤(y:Int):=by omega
     have y1:(y:Int)<(F.q:Int):=by omega
     have hbc:=hbb.cell hyq;by_cases hmem:(y:Int)∈L.take k
     ·have hfin:Hid ((basE F l d==0)=false):=by
       unfold Hid;rw[h9.out (fun h=>by
        obtain⟨j,hj,hjl,e⟩:=mem_take7 hmem;rw[hLl.out]at hjl;rw[hLg.out j hjl,hyv]at e;have e2:=h j k (by rw[←hNq.out]; exact hjl) (by rw[←hNq.out]; exact hkN) (rcode_inj (Int.ofNat.inj e));omega)]
       rfl
      rw[decide_eq_true hmem]at hbc;clear hmem hy;replace hyv:=Lib.hid hyv;go_wp2_with (fail);go_ret;exact⟨by rw[hfin.out]; rfl,hB8⟩
     ·have htk:Hid (L.take (k+1)=L.take k ++ [(y:Int)]):=by
       have hkl:k<L.length:=by rw[hLl.out]; exact hkN
       unfold Hid; rw[List.take_add_one,List.getElem?_eq_getElem hkl]; rw[List.getElem?_eq_getElem hkl]at hy; simp only[Option.getD_some]at hy; rw[hy]; rfl
      have hdis2:Hid (∀ t t',t<t'→t'<k+1→sm i t≠sm i t'):=fun t t' h1 h2 e=>by
       by_cases e2:t'=k
       ·apply hmem;have h3:=hLg.out t (by omega);rw[e,e2,←hyv]at h3;rw[←h3];have htl:t<L.length:=by rw[hLl.out]; omega
        rw[List.getElem?_eq_getElem htl];exact List.mem_take_iff_getElem.2 ⟨t,by omega,rfl⟩
       ·exact hdis.out t t' h1 (by omega) e
      have hfW:=hbb.frozen y;rw[decide_eq_false hmem]at hbc;have hset:=hbb.set_ y true;rw[show (fun i=>if i=y then true else decide ((i:Int)∈L.take k))=(fun i:Nat=>decide ((i:Int)∈L.take (k+1))) from funext fun i=>by
       rw[htk.out];by_cases e:i=y
       ·subst e; simp
       ·have e2:¬ (i:Int)=(y:Int):=by omega
        simp[e,e2]]at hset
      replace hset:=Lib.hid hset;have hb9:=Lib.hid (hb8.setCell (p:=⟨gI,y,none⟩) hgI2 (.bool true));clear hmem hy;replace hyv:=Lib.hid hyv;go_wp2_with (fail);go_roundw
      case rel=>exact⟨k+1,by omega,by go_num,hset.out,hdis2,hb9.out⟩
      case measure=>simp[intOf]; omega
    ·obtain rfl:k=Ni:=by omega
     have hfin:Hid ((basE F l d==0)=true):=by
      unfold Hid;rw[h0.out (fun t t' h1 h2 e=>by
       rw[←hNq.out]at h1 h2;rcases Nat.lt_trichotomy t t' with h | h | h
       ·exact absurd e (hdis.out t t' h h2)
       ·exact h
       ·exact absurd e.symm (hdis.out t' t h h1))]
      rfl
     go_wp2_with (fail);go_ret;exact⟨by rw[hfin.out]; rfl,hB8⟩

theorem IsB7_any (F:FD)(l:List Int)(d:Int)(A Al:Option Addr)(c cl:Nat)(w:World)(hr:Rd w w.heap.size A (modL F.toDesc))(hrl:Rd w w.heap.size Al l)(hl:l.length≤maxLen) :
  Calls Tryz.prog 55 #[.agg #[.int .i64 F.p,.int .i64 F.m,.slice A F.mod.length c],.slice Al l.length cl,.int .i64 d] w fun e w'=>e=.returned (.bool (basE F l d==0))∧Below w.heap.size w w':=by
 by_cases h:divB F.m d=true∧l.length=F.m / d.toNat
 ·obtain⟨hdv,hln⟩:=h;obtain⟨dn,rfl,hk1,hkm,hkd⟩:=divB_nat hdv;rw[Int.toNat_natCast]at hln;have h1:=IsB7_yes F l dn (F.m / dn) A Al c cl w hr hrl hk1 hkm hkd rfl hln;rw[←hln]at h1;exact h1
 ·have h1:=IsB7_no F l d A Al c cl w hl h;have h2:(basE F l d==0)=false:=by
   by_cases hdv:divB F.m d=true
   ·obtain⟨dn,rfl,hk1,hkm,hkd⟩:=divB_nat hdv;rw[basE_bad hdv (fun e=>h ⟨hdv,by rw[Int.toNat_natCast]; exact e.1⟩)]; rfl
   ·rw[Bool.not_eq_true]at hdv;rw[basE_no hdv]; rfl
  rw[h2];exact h1
end Go.Proofs.YtogfekjbpcfgmaaGreat
