/- ref14.Coordinates: the messages of all elements of the great field. -/
import Derived.Test.YtogfekjbpcfgmaaGreatZtCRowL
import Derived.Test.YtogfekjbpcfgmaaGreatZtCEmbR
import Derived.Test.YtogfekjbpcfgmaaGreatZtCConL
import Derived.Test.YtogfekjbpcfgmaaGreatZtCTk
namespace Go.Proofs.YtogfekjbpcfgmaaGreat
open Go.RowKit Cw
attribute [local go_sem] Oper.semAt_some

def TabAt (w:World)(b n:Nat)(rows:Nat→List Int):Prop :=
 ∀ i,i<n→∃ Ai ci,w.cell? ⟨b,i,none⟩=some (.slice Ai (rows i).length ci)∧w.frozen? ⟨b,i,none⟩=false∧Rd w w.heap.size Ai (rows i)∧(rows i).length≤ci∧ci≤maxLen∧∀ a,Ai=some a→a.block≠b
section
variable {w w':World} {b n:Nat} {rows:Nat→List Int}
theorem TabAt.below {B:Nat} (h:TabAt w b n rows)(hb:Below B w w')(hB:w.heap.size≤B)(hlt:b<w.heap.size):TabAt w' b n rows:=fun i hi=>by
 obtain⟨Ai,ci,h1,h2,h3,h4,h5,h6⟩:=h i hi;exact⟨Ai,ci,(hb.cell (p:=⟨b,i,none⟩) (by show b<B; omega)).trans h1,(hb.frozen (p:=⟨b,i,none⟩) (by show b<B; omega)).trans h2,(h3.below (hb.mono hB)).more hb.size,h4,h5,h6⟩
theorem TabAt.congr {rows':Nat→List Int} (h:TabAt w b n rows)(he:∀ i,i<n→rows i=rows' i):TabAt w b n rows':=fun i hi=>by
 rw[←he i hi]; exact h i hi
theorem Rd.farC {B:Nat} {A:Option Addr} {l:List Int} (h:Rd w B A l)(hne:∀ a,A=some a→a.block≠b)(i:Nat)(u:Value):Rd (w.setCell ⟨b,i,none⟩ u) B A l:=fun hn=>by
 obtain⟨b1,o1,e,h1,h2⟩:=h hn;refine⟨b1,o1,e,h1,fun j hj=>?_⟩;have:=hne _ e;rw[World.cell?_setCell_far _ _ _ _ (fun e2=>this e2.symm)];exact h2 j hj
theorem TabAt.set_ (h:TabAt w b n rows){x:Nat} {A:Option Addr} {c:Nat} {l:List Int} (hl:l.length≤c)(hc:c≤maxLen)(hr:Rd w w.heap.size A l)(hne:∀ a,A=some a→a.block≠b) :
  TabAt (w.setCell ⟨b,x,none⟩ (.slice A l.length c)) b n (fun i=>if i=x then l else rows i):=fun i hi=>by
 obtain⟨Ai,ci,h1,h2,h3,h4,h5,h6⟩:=h i hi;have hsz:(w.setCell ⟨b,x,none⟩ (.slice A l.length c)).heap.size=w.heap.size:=by simp[World.setCell]
 have hfr:(w.setCell ⟨b,x,none⟩ (.slice A l.length c)).frozen? ⟨b,i,none⟩=false:=by simp[go_sem,h2]
 by_cases e:i=x
 ·subst e;dsimp only;rw[if_pos rfl,hsz];refine⟨A,c,?_,hfr,hr.farC hne _ _,hl,hc,hne⟩;simp[go_sem,h1]
 ·dsimp only;rw[if_neg e,hsz];refine⟨Ai,ci,?_,hfr,h3.farC h6 _ _,h4,h5,h6⟩;rw[World.cell?_setCell_other _ _ _ _ (fun e2=>e (by injection e2 with e3 e4; exact e4.symm))];exact h1
theorem TabAt.new (w:World)(n b:Nat)(hb:b=w.heap.size):TabAt (w.alloc (.cells (Array.replicate n (Value.slice none 0 0)) 22)) b n (fun _=>[]):=fun i hi=>by
 subst hb;exact⟨none,0,by simp[go_sem,hi],by simp[go_sem],Rd.nil,Nat.le_refl _,Nat.zero_le _,fun a e=>by cases e⟩
theorem TabAt.rdm (h:TabAt w b n rows)(hlt:b<w.heap.size):RdM w w.heap.size (some ⟨b,0,none⟩) n rows:=fun _=>⟨b,0,rfl,hlt,fun i hi=>by
 obtain⟨Ai,ci,h1,h2,h3,h4,h5,h6⟩:=h i hi;exact⟨Ai,ci,by rw[Nat.zero_add]; exact h1,h3,h4,h5⟩⟩
end

theorem rowL_snoc9 (D:Desc)(a:Nat)(f:Nat→R D):rowL D a f ++ [ci (f a)]=rowL D (a+1) f:=by unfold rowL; rw[lst_succ]
theorem cmS_succ (S F:FD)(r:R F.toDesc)(k:Nat)(b:Nat→R F.toDesc)(s:Nat→R S.toDesc):cmS S F r (k+1) b s=cmS S F r k b s+phi S F r (s k)*b k:=rsum_succ _ _
set_option maxRecDepth 100000 in
set_option maxHeartbeats 4000000 in
theorem Coor14_ok (S F:FD)(n rt:Nat)(l:List Int)(A AF Al:Option Addr)(c cF cl:Nat)(w:World)(hrA:Rd w w.heap.size A (modL S.toDesc))(hrF:Rd w w.heap.size AF (modL F.toDesc))(hrl:Rd w w.heap.size Al l)(hln:l.length=n)(hp:S.p=F.p)(hnM:S.m*n=F.m)(hrt:IsRt S F rt)(hI:IndS S.m n (elL F l)) :
  Calls Tryz.prog 56 #[.agg #[.int .i64 F.p,.int .i64 F.m,.slice AF F.mod.length cF],.agg #[.int .i64 S.p,.int .i64 S.m,.slice A S.mod.length c],.slice Al n cl] w fun e w'=>∃ b,e=.returned (.slice (some ⟨b,0,none⟩) F.q F.q)∧RdM w' w'.heap.size (some ⟨b,0,none⟩) F.q (fun x=>rowL S.toDesc n (msgS S F (rel F.toDesc rt) n (elL F l) (rel F.toDesc x)))∧Below w.heap.size w w':=by
 have hm8:=F.m8; have hm1:=S.m1; have hFm8:=S.m8;have hFq:=F.toDesc.q256; have hSq:=S.toDesc.q256; have hSq2:=S.toDesc.q2;have hFp:=F.p256; have hSp:=S.p256;have hn8:n≤8:=Nat.le_trans (Nat.le_mul_of_pos_left n hm1) (by rw[hnM]; exact hm8);have hmr:=mk_rows F.q (by omega);have h0:=hrt.2.1;obtain⟨r,hr⟩:∃ r,r=rel F.toDesc rt:=⟨_,rfl⟩;have hEm:=fun W a b=>Lib.hid (Embed7_any S F rt A AF c cF W a b hp hrt)
 have hOS:=fun W=>Order_any S.p S.m A S.mod.length c W (by omega) (by omega)
 have hOF:=fun W=>Order_any F.p F.m AF F.mod.length cF W (by omega) (by omega)
 rw[qOf_D]at hOS hOF;have hMu:=fun x y W a=>Lib.hid (Mul_any F.toDesc x y AF cF W a)
 have hAd:=fun x y W=>Lib.hid (Add_any F.toDesc x y AF F.mod.length cF W)
 have hemb:=fun x (hx:x<S.q)=>embL_get S F rt hx
 have htz:∀ x,tabV S F r n (elL F l) 0 x=[]:=tabV_zero;have htf:=fun x hx=>tabV_full (b:=elL F l) hp (r:=r) (by rw[hr]; exact h0) hI hnM (x:=x) hx
 have hts:=fun v i=>tabV_step (b:=elL F l) hp (r:=r) (by rw[hr]; exact h0) hI v i
 rw[←hr]at hemb ⊢;obtain⟨Z,hZ⟩:∃ Z,Z=(w.alloc (.cells #[.int .i64 F.p,.int .i64 F.m,.slice AF F.mod.length cF] 24)).alloc (.cells #[.int .i64 S.p,.int .i64 S.m,.slice A S.mod.length c] 24):=⟨_,rfl⟩;have hB:Below w.heap.size w Z:=by rw[hZ]; exact ((Below.refl _ _).alloc (Nat.le_refl _) _).alloc (by simp) _
 have hZs:w.heap.size+1<Z.heap.size:=by rw[hZ]; simp
 have kz:(Z.cell? ⟨w.heap.size,0,none⟩=some (.int .i64 F.p)∧Z.cell? ⟨w.heap.size,1,none⟩=some (.int .i64 F.m)∧Z.cell? ⟨w.heap.size,2,none⟩=some (.slice AF F.mod.length cF)) ∧
   Z.cell? ⟨w.heap.size+1,0,none⟩=some (.int .i64 S.p)∧Z.cell? ⟨w.heap.size+1,1,none⟩=some (.int .i64 S.m)∧Z.cell? ⟨w.heap.size+1,2,none⟩=some (.slice A S.mod.length c):=by rw[hZ]; simp[go_sem]
 obtain⟨s,hs⟩:∃ s,s=w.heap.size:=⟨_,rfl⟩;rw[←hs]at kz hZs;obtain⟨kF,kS⟩:=kz;replace kF:=Lib.hid kF;replace kS:=Lib.hid kS;have hE1:=hEm Z ((hrA.below hB).more hB.size) ((hrF.below hB).more hB.size);replace hZ:=Lib.hid hZ;replace hp:=Lib.hid hp;replace hnM:=Lib.hid hnM;replace hln:=Lib.hid hln;replace hr:=Lib.hid hr;replace hemb:=Lib.hid hemb;replace htz:=Lib.hid htz;replace htf:=Lib.hid htf;replace hts:=Lib.hid hts;replace h0:=Lib.hid h0;clear hEm hrt hI;have hqz:¬ (S.q:Int)=0:=by omega
 go_enter Tryz.func56,Tryz.ntmps56;obtain⟨a0,a1,a2⟩:=kF.out;obtain⟨b0,b1,b2⟩:=kS.out;go_wp2_with (fail);rw[←hZ.out];simp only[←hs];have hsw:w.heap.size≤s:=Nat.le_of_eq hs.symm;replace hs:=Lib.hid hs;go_wp2_with (fail);(with_reducible refine hE1.out.mono ?_);rintro e w1 ⟨v,rfl,hown,hb1⟩;obtain⟨Ai,ci',rfl,hci1,hri,-⟩:=hown.form;rw[embL_length]at hci1 ⊢;have hB1:=hB.trans (hb1.mono hB.size);have kF1:=Lib.hid (keep3 hb1 (by omega) kF.out);have kS1:=Lib.hid (keep3 hb1 hZs kS.out);have hs1:s+1<w1.heap.size:=Nat.lt_of_lt_of_le hZs hb1.size;have hO1:=Lib.hid (hOS w1);clear hown hE1 a0 a1 a2 b0 b1 b2 kF kS;obtain⟨b0,b1,b2⟩:=kS1.out;go_wp2_with (fail);(with_reducible refine hO1.out.mono ?_);rintro e w2 ⟨rfl,hb2⟩;have hO2:=Lib.hid (hOF w2);obtain⟨a0,a1,a2⟩:=keep3 hb2 (by omega) kF1.out;clear b0 b1 b2 hO1;go_wp2_with (fail);(with_reducible refine hO2.out.mono ?_);rintro e w3 ⟨rfl,hb3⟩;have hb13:=hb2.trans (hb3.mono hb2.size);have hB3:=hB1.trans (hb13.mono hB1.size);obtain⟨Y,hY⟩:∃ Y,Y=w3.alloc (.cells (Array.replicate F.q (Value.slice none 0 0)) 22):=⟨_,rfl⟩;have hbY:Below w3.heap.size w3 Y:=by rw[hY]; exact (Below.refl _ _).alloc (Nat.le_refl _) _
 have htY:TabAt Y w3.heap.size F.q (tabV S F r n (elL F l) 0):=by rw[hY]; exact (TabAt.new w3 F.q _ rfl).congr fun i _=>(htz.out i).symm
 have hYs:w3.heap.size<Y.heap.size:=by rw[hY]; simp
 replace hY:=Lib.hid hY;clear hO2 a0 a1 a2;have kF3:=Lib.hid (keep3 hb13 (by omega) kF1.out);have kS3:=Lib.hid (keep3 hb13 hs1 kS1.out);have hs3:s+1<w3.heap.size:=Nat.lt_of_lt_of_le hs1 hb13.size;have hri3:=(hri.below hb13).more hb13.size;clear hri kF1 kS1 hb1 hb2 hb3 hB1;go_wp2_with (fail);rw[←hY.out];go_loopw [10,11,12,13,14] (fun i _ _ _ _ wr=>∃ v:Nat,v≤F.q∧i=.int .i64 v∧Hid (TabAt wr w3.heap.size F.q (tabV S F r n (elL F l) v))∧Below w3.heap.size w3 wr∧w3.heap.size<wr.heap.size) (fun i _ _ _ _ _=>F.q - (intOf i).toNat)
 case atStart=>exact⟨0,by omega,rfl,htY,hbY,hYs⟩
 case round =>
  obtain⟨w4,rfl⟩:∃ w4:World,w4=wr:=⟨_,rfl⟩;obtain⟨v,hv,rfl,htb,hb4,hl4⟩:=hrel;by_cases hvl:v<F.q
  ·have v0:(0:Int)≤(v:Int):=by omega
   have v1:(v:Int)<(F.q:Int):=by omega
   go_wp2_with (fail);go_loopw [14,11,12,13] (fun iS zS xS cS wr=>∃ k z:Nat,k≤n∧iS=.int .i64 k∧zS=.int .i64 z∧z≤1000000∧Hid (z=v / S.q ^ k)∧xS=.int .i64 (Cw.ci (cmS S F r k (elL F l) fun j=>rel S.toDesc (dgN S.q v j)))∧Own wr w4.heap.size cS (rowL S.toDesc k fun j=>rel S.toDesc (dgN S.q v j))∧Below w4.heap.size w4 wr) (fun iS _ _ _ _=>n - (intOf iS).toNat)
   case atStart=>exact⟨0,v,by omega,rfl,rfl,by omega,by unfold Hid; rw[Nat.pow_zero,Nat.div_one],by rw[show cmS S F r 0 (elL F l) (fun j=>rel S.toDesc (dgN S.q v j))=0 from rsum_zero _,ci_zero],Own.nil _ _,Below.refl _ _⟩
   case round =>
    obtain⟨w5,rfl⟩:∃ w5:World,w5=wr:=⟨_,rfl⟩;obtain⟨k,z,hk,rfl,rfl,hz6,hz,rfl,hoc,hb5⟩:=hrel;by_cases hkl:k<n
    ·have k0:(0:Int)≤(k:Int):=by omega
     have k1:(k:Int)<(n:Int):=by omega
     obtain⟨d,hd⟩:∃ d,d=z % S.q:=⟨_,rfl⟩;have hdl:d<S.q:=by rw[hd]; exact Nat.mod_lt _ (by omega)
     have hdg:dgN S.q v k=d:=by unfold dgN; rw[←hz.out,hd]
     have hm1:((z:Int) % (S.q:Int))=(d:Int):=by rw[hd]; push_cast; rfl
     have hmt:((z:Int).tmod (S.q:Int))=(d:Int):=by rw[hd]; rfl
     have hqn:¬ S.q=0:=by omega
     obtain⟨z2,hz2⟩:∃ z2,z2=z / S.q:=⟨_,rfl⟩;have hm2:((z:Int) / (S.q:Int))=(z2:Int):=by rw[hz2]; push_cast; rfl
     have hz26:z2≤1000000:=by rw[hz2]; exact Nat.le_trans (Nat.div_le_self _ _) hz6
     have hzn:Hid (z2=v / S.q ^ (k+1)):=by unfold Hid; rw[hz2,hz.out,Nat.div_div_eq_div_mul,Nat.pow_succ]
     have hB5:=hb4.trans (hb5.mono hb4.size);have hBB5:=hB3.trans (hB5.mono hB3.size);obtain⟨bi,oi,rfl,hbi,hci⟩:=hri3.at_ (k:=d) (by rw[embL_length]; exact hdl);rw[hemb.out d hdl]at hci;obtain⟨bb,ob,rfl,hbb,hcb⟩:=hrl.at_ (k:=k) (by rw[hln.out]; exact hkl);obtain⟨u,hu⟩:∃ u,u=l[k]?.getD 0:=⟨_,rfl⟩;obtain⟨y,hy⟩:∃ y,y=Cw.ci (phi S F r (rel S.toDesc d)):=⟨_,rfl⟩;rw[←hu]at hcb;rw[←hy]at hci;obtain⟨p,hpq⟩:∃ p,p=Cw.ci (phi S F r (rel S.toDesc d)*elL F l k):=⟨_,rfl⟩;obtain⟨x0,hx0⟩:∃ x,x=Cw.ci (cmS S F r k (elL F l) fun j=>rel S.toDesc (dgN S.q v j)):=⟨_,rfl⟩;obtain⟨x1,hx1⟩:∃ x,x=Cw.ci (cmS S F r (k+1) (elL F l) fun j=>rel S.toDesc (dgN S.q v j)):=⟨_,rfl⟩;have hMu5:=fun W a=>(hMu y u W a).out
     rw[show Cw.ci (eli F.toDesc y*eli F.toDesc u)=p from by rw[hpq,hy,hu,eli_ci]; rfl]at hMu5;have hAd5:=fun W=>(hAd x0 p W).out
     rw[show Cw.ci (eli F.toDesc x0+eli F.toDesc p)=x1 from by rw[hx0,hx1,hpq,eli_ci,eli_ci,cmS_succ,hdg]]at hAd5;replace hMu5:=fun W a=>Lib.hid (hMu5 W a)
     replace hAd5:=fun W=>Lib.hid (hAd5 W)
     have hsn:=rowL_snoc9 S.toDesc k fun j=>rel S.toDesc (dgN S.q v j)
     rw[hdg,show Cw.ci (rel S.toDesc d)=(d:Int) from congrArg Nat.cast (rcode_rel hdl)]at hsn;have hciH:=Lib.hid hci;have hcbH:=Lib.hid hcb;have d0:(0:Int)≤(d:Int):=by omega
     have d1:(d:Int)<(S.q:Int):=by omega
     have hw45:=hb5.size;have hrk:=rowL_length S.toDesc k fun j=>rel S.toDesc (dgN S.q v j)
     rw[←hx0];replace hsn:=Lib.hid hsn;replace hd:=Lib.hid hd;replace hz2:=Lib.hid hz2;replace hu:=Lib.hid hu;replace hy:=Lib.hid hy;replace hpq:=Lib.hid hpq;replace hx0:=Lib.hid hx0;replace hx1:=Lib.hid hx1;replace hdg:=Lib.hid hdg;clear hci hcb hMu hAd;go_wp2_with (at_builtin; refine wpList_app1 rfl _ _ rfl w4.heap.size _ _ _ hoc rfl rfl rfl (by rw[hrk]; omega) hw45 ?_; intro v7 w7 ho7 hb7 _ _);rw[hsn.out]at ho7;have hB57:=hB5.trans (hb7.mono hb4.size);have hx57:=hb5.trans (hb7.mono (Nat.le_refl _));have hBB7:=hB3.trans (hB57.mono hB3.size);have kF7:=keep3 hB57 (by omega) kF3.out;have k7:=Lib.hid (show (_∧_∧_)∧_∧_ from ⟨kF7,(hB57.cell (p:=⟨bi,oi+d,none⟩) hbi).trans hciH.out,(hBB7.cell (p:=⟨bb,ob+k,none⟩) hbb).trans hcbH.out⟩);have hM7:=hMu5 w7.drew (((hrF.below hBB7).more hBB7.size).drew);have hl3:s<w7.heap.size:=by have:=hB57.size; omega
     have hl7:bi<w7.heap.size:=by have:=hB57.size; omega
     have hl8:bb<w7.heap.size:=by have:=hBB7.size; omega
     clear kF7 hMu5;refine wp_region_held_drew (S:=fun w'=>(w'.cell? ⟨s,0,none⟩=some (.int .i64 F.p)∧w'.cell? ⟨s,1,none⟩=some (.int .i64 F.m)∧w'.cell? ⟨s,2,none⟩=some (.slice AF F.mod.length cF))∧w'.cell? ⟨bi,oi+d,none⟩=some (.int .i64 y)∧w'.cell? ⟨bb,ob+k,none⟩=some (.int .i64 u)) (by kernel_rfl) (by (try dsimp only); exact k7.out) (fun hHeld=>?_);refine tk 0 ?_; try simp only[pS]
     refine tk 1 ?_; try simp only[pS]
     refine tk 2 ?_; try simp only[pS]
     refine tk 3 ?_; try simp only[pS]
     refine tk 4 ?_; try simp only[pS]
     refine tk 5 ?_; try simp only[pS]
     refine tk 6 ?_; try simp only[pS]
     refine tk 7 ?_; try simp only[pS]
     refine tk 8 ?_; try simp only[pS]
     refine tk 9 ?_; try simp only[pS]
     refine tk 10 ?_; try simp only[pS]
     refine tk 11 ?_; try simp only[pS]
     refine tk 12 ?_; try simp only[pS]
     refine rd 13 fun K hK=>?_
     go_simp;go_at_call 57;(with_reducible refine (hM7).out.mono ?_);rintro e w8 ⟨rfl,hx8⟩;have hb8:=(Below.refl w7.heap.size w7).drew.trans hx8;have k8:=Lib.hid (show (_∧_∧_)∧_∧_ from ⟨keep3 hb8 hl3 k7.out.1,(hb8.cell (p:=⟨bi,oi+d,none⟩) hl7).trans k7.out.2.1,(hb8.cell (p:=⟨bb,ob+k,none⟩) hl8).trans k7.out.2.2⟩);have hA8:=hAd5 w8;have hs78:=hb8.size;go_wp2_with (fail);refine hK.out _ _ (by (try dsimp only); exact k8.out) (fun hHeld=>?_);clear hK K;try simp only[pS]
     refine rd 14 fun K hK=>?_
     go_simp;go_at_call 118;(with_reducible refine (hA8).out.mono ?_);rintro e w9 ⟨rfl,hb9⟩;have k9:=Lib.hid (show (_∧_∧_)∧_∧_ from ⟨keep3 hb9 (Nat.lt_of_lt_of_le hl3 hs78) k8.out.1,(hb9.cell (p:=⟨bi,oi+d,none⟩) (Nat.lt_of_lt_of_le hl7 hs78)).trans k8.out.2.1,(hb9.cell (p:=⟨bb,ob+k,none⟩) (Nat.lt_of_lt_of_le hl8 hs78)).trans k8.out.2.2⟩);go_wp2_with (fail);refine hK.out _ _ (by (try dsimp only); exact k9.out) (fun hHeld=>?_);clear hK K;try simp only[pS]
     refine tk 15 ?_; try simp only[pS]
     refine wpAnyH_done (by kernel_rfl) ?_ _;have hb79:=hb8.trans (hb9.mono hs78);have ho9:=ho7.below hb79 (Nat.le_refl _);have hb49:=hx57.trans (hb79.mono hx57.size);clear k9 k8 k7 hb8 hb9 ho7;go_wp2_with (fail);go_roundw
     case rel=>exact⟨k+1,z2,by omega,by go_num,rfl,hz26,hzn,by rw[hx1.out],ho9,hb49⟩
     case measure=>simp[intOf]; omega
    ·obtain rfl:k=n:=by omega
     obtain⟨Ac,cc,rfl,hlc,hcc,hrc,hAc⟩:=hoc.parts;rw[rowL_length]at hlc;rw[rowL_length];obtain⟨X,hX⟩:∃ X,X=rcode (elV S F r k (elL F l) v):=⟨_,rfl⟩;have hXl:X<F.q:=by rw[hX]; exact rcode_lt _
     rw[show Cw.ci (cmS S F r k (elL F l) fun j=>rel S.toDesc (dgN S.q v j))=(X:Int) from by rw[hX]; rfl];have ht5:=htb.out.below hb5 (Nat.le_refl _) hl4;have hset:=ht5.set_ (x:=X) (A:=Ac) (c:=cc) (l:=rowL S.toDesc k fun j=>rel S.toDesc (dgN S.q v j)) (by rw[rowL_length]; exact hlc) hcc hrc (fun a e e2=>by have:=hAc a e; omega);rw[rowL_length]at hset;have hst:=fun i=>hts.out v i
     rw[←hX]at hst;have hset2:=Lib.hid (TabAt.congr (rows':=tabV S F r k (elL F l) (v+1)) hset fun i _=>hst i);clear hst;obtain⟨A0,c0,q1,q2,-⟩:=ht5 X hXl;have X0:(0:Int)≤(X:Int):=by omega
     have X1:(X:Int)<(F.q:Int):=by omega
     have hB5:=hb4.trans (hb5.mono hb4.size);have hfb:=Lib.hid (hB5.setCell (p:=⟨w3.heap.size,X,none⟩) (Nat.le_refl _) (.slice Ac k cc));have hsz:Hid (w3.heap.size<(w5.setCell ⟨w3.heap.size,X,none⟩ (.slice Ac k cc)).heap.size):=by unfold Hid; simp only[World.setCell,Array.size_modify]; exact Nat.lt_of_lt_of_le hl4 hb5.size
     replace hX:=Lib.hid hX;clear hset ht5 hrc hoc hAc;go_wp2_with (fail);go_roundw
     case rel=>exact⟨v+1,by omega,by go_num,hset2,hfb.out,hsz.out⟩
     case measure=>simp[intOf]; omega
  ·obtain rfl:v=F.q:=by omega
   have hrd:=Lib.hid ((htb.out.congr fun i hi=>htf.out i hi).rdm hl4);have hB4:=hB3.trans (hb4.mono hB3.size);clear htb;go_wp2_with (fail);go_ret;exact⟨w3.heap.size,rfl,hrd.out,hB4⟩
end Go.Proofs.YtogfekjbpcfgmaaGreat
