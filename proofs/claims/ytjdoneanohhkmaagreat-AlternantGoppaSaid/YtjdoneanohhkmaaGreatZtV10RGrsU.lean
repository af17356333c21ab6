/- The reference: equal fields. Plain law of layer 18: the weights of codewords, the dual description. No Go here. Plain law of layer 18: the dual description and its dual. No Go here. Plain law of layer 18: codewords are orthogonal to those of the dual description. No Go here. The reference: differences. Layer 18 of the reference and the law's own: equal descriptions, good, weights, inner products. Layer 18 of the reference: Dual. -/
import Derived.IntWalk
import Derived.Test.YtjdoneanohhkmaaGreatZtV10RP1
import Derived.Test.YtjdoneanohhkmaaGreatZtV10RRF
import Derived.Test.YtjdoneanohhkmaaGreatZtV10RPol5
import Derived.Test.YtjdoneanohhkmaaGreatZtV10RGrsH
namespace Go.Proofs.YtjdoneanohhkmaaGreat
section
open Go.RowKit Cw
attribute [local go_sem] Oper.semAt_some

set_option maxHeartbeats 1000000 in
theorem Same4_eq (P M:Int)(ml:List Int)(A A':Option Addr)(c c':Nat)(w:World)(h1:Rd w w.heap.size A ml)(h2:Rd w w.heap.size A' ml)(hl:ml.length≤maxLen) :
  Calls Tryz.prog 72 #[.agg #[.int .i64 P,.int .i64 M,.slice A ml.length c],.agg #[.int .i64 P,.int .i64 M,.slice A' ml.length c']] w fun e w'=>e=.returned (.bool true)∧Below w.heap.size w w':=by
 unfold maxLen at hl;obtain⟨Z,hZ⟩:∃ Z,Z=(w.alloc (.cells #[.int .i64 P,.int .i64 M,.slice A ml.length c] 24)).alloc (.cells #[.int .i64 P,.int .i64 M,.slice A' ml.length c'] 24):=⟨_,rfl⟩;have hB:Below w.heap.size w Z:=by rw[hZ]; exact ((Below.refl _ _).alloc (Nat.le_refl _) _).alloc (by simp) _
 have hn:w.heap.size+1<Z.heap.size:=by rw[hZ]; simp
 have kz:Z.cell? ⟨w.heap.size,0,none⟩=some (.int .i64 P)∧Z.cell? ⟨w.heap.size,1,none⟩=some (.int .i64 M)∧Z.cell? ⟨w.heap.size,2,none⟩=some (.slice A ml.length c) ∧
   Z.cell? ⟨w.heap.size+1,0,none⟩=some (.int .i64 P)∧Z.cell? ⟨w.heap.size+1,1,none⟩=some (.int .i64 M)∧Z.cell? ⟨w.heap.size+1,2,none⟩=some (.slice A' ml.length c'):=by rw[hZ]; simp[go_sem]
 replace hZ:=Lib.hid hZ;replace kz:=Lib.hid kz;go_enter Tryz.func72,Tryz.ntmps72;go_wp2_with (fail);rw[←hZ.out];go_loopw [5] (fun i wr=>∃ k:Nat,k≤ml.length∧i=.int .i64 k∧Below Z.heap.size Z wr) (fun i _=>ml.length - (intOf i).toNat)
 case atStart=>exact⟨0,by omega,rfl,Below.refl _ _⟩
 case round =>
  obtain⟨k,hk,rfl,hbw⟩:=hrel;obtain⟨w2,rfl⟩:∃ w2:World,w2=wr:=⟨_,rfl⟩;obtain⟨q0,q1,q2,q3,q4,q5⟩:=keep3x2 hbw (by omega) hn kz.out;have hbb:=hB.trans (hbw.mono hB.size);by_cases hlt:k<ml.length
  ·obtain⟨b1,o1,rfl,hb1,hc1⟩:=h1.at_ hlt;obtain⟨b2,o2,rfl,hb2,hc2⟩:=h2.at_ hlt;have hd1:=(hbb.cell (p:=⟨b1,o1+k,none⟩) hb1).trans hc1;have hd2:=(hbb.cell (p:=⟨b2,o2+k,none⟩) hb2).trans hc2;obtain⟨y1,hy1⟩:∃ y,y=ml[k]?.getD 0:=⟨_,rfl⟩;rw[←hy1]at hd1 hd2;have hz:(y1 !=y1)=false:=by simp
   clear hc1 hc2 hy1;go_wp2_with (fail);go_quiet (fail);go_wp2_with (fail);go_roundw
   case rel=>exact⟨k+1,by omega,by go_num,⟨hbw.os,hbw.tape,hbw.output,hbw.size,hbw.block⟩⟩
   case measure=>simp[intOf]; omega
  ·obtain rfl:k=ml.length:=by omega
   go_wp2_with (fail);go_ret;exact⟨rfl,hbb⟩
end
section
open Cw
open Cw.CField (inv)

def wgt (l:List Int):Nat:=(l.filter fun x=>x !=0).length
theorem wgt_le (l:List Int):wgt l≤l.length:=List.length_filter_le _ _
theorem eli_inj {D:Desc} {x y:Int} (hx:0≤x∧x<D.q)(hy:0≤y∧y<D.q)(h:eli D x=eli D y):x=y:=by rw[←ci_eli_in hx,←ci_eli_in hy,h]
theorem eli_ne {D:Desc} {x:Int} (hx:0≤x∧x<D.q)(h:x≠0):eli D x≠0:=fun e=>h (by rw[←ci_eli_in hx,e,ci_zero])
theorem nodup_get {l:List Int} (h:twB l=false){i j:Nat} (hi:i<l.length)(hj:j<l.length)(e:l[i]?.getD 0=l[j]?.getD 0):i=j:=by
 rcases Nat.lt_trichotomy i j with h1 | h1 | h1
 ·rw[twB_yes h1 hj e.symm]at h; cases h
 ·exact h1
 ·rw[twB_yes h1 hi e]at h; cases h
theorem mem_get {l:List Int} {i:Nat} (hi:i<l.length):l[i]?.getD 0∈l:=by rw[List.getElem?_eq_getElem hi]; exact List.getElem_mem _

section
variable {F:FD}
theorem pevI_pev (l:List Int)(u:R F.toDesc):pevI F.toDesc l u=pev (l.map (eli F.toDesc)) u:=by
 have e:l.map (eli F.toDesc)=(List.range l.length).map (fun i=>eli F.toDesc (l[i]?.getD 0)):=by
  apply List.ext_getElem
  ·simp
  ·intro i h1 h2;have:i<l.length:=by simpa using h1
   simp[this]
 rw[e,pev_map];rfl

theorem word_zero {K:Int} {pts mul msg:List Int} (hz:gchkD F.toDesc K pts mul=0){i:Nat} (hi:i<pts.length) :
  ci (eli F.toDesc (mul[i]?.getD 0)*pevI F.toDesc msg (eli F.toDesc (pts[i]?.getD 0)))=0↔pev (msg.map (eli F.toDesc)) (eli F.toDesc (pts[i]?.getD 0))=0:=by
 obtain⟨-,-,hlen,-,hm,-,h0,-,-⟩:=gchkD_zero hz;have h1:=elB_iff.1 hm i (by omega);have h2:mul[i]?.getD 0≠0:=fun e=>h0 (e ▸ mem_get (by omega))
 rw[ci_eq_zero,pevI_pev];constructor
 ·intro h;rcases mul_eq_zero h with h | h
  ·exact absurd h (eli_ne h1 h2)
  ·exact h
 ·intro h;rw[h]; exact mul_zero _
end
end
section
open Cw
open Cw.CField (inv)

theorem dualL_length (F:FD)(pts mul:List Int):(dualL F pts mul).length=pts.length:=lst_length _ _
theorem dprod_mul (D:Desc)(pts:List Int)(i:Nat)(u:R D):∀ k,dprod D pts i u k=u*dprod D pts i 1 k
 | 0=>(mul_one u).symm
 | k+1=>by
  by_cases h:k=i
  ·rw[show dprod D pts i u (k+1)=dprod D pts i u k from if_pos h,show dprod D pts i 1 (k+1)=dprod D pts i 1 k from if_pos h,dprod_mul D pts i u k]
  ·rw[dprod_other _ _ _ h,dprod_other _ _ _ h,dprod_mul D pts i u k,mul_a]
theorem dualL_eq {F F':FD} (h:F'.toDesc=F.toDesc)(pts mul:List Int):dualL F' pts mul=dualL F pts mul:=by
 obtain⟨D,g,a,b,c⟩:=F;obtain⟨D',g',a',b',c'⟩:=F';dsimp only at h;subst h;rfl

section
variable {F:FD}
theorem dprod_ne {pts:List Int} (hp:elB F.toDesc pts=true)(ht:twB pts=false){i:Nat} (hi:i<pts.length):∀ k,k≤pts.length→dprod F.toDesc pts i 1 k≠0
 | 0,_=>one_ne (F:=R F.toDesc)
 | k+1,hk=>by
  have ih:=dprod_ne hp ht hi k (by omega);by_cases h:k=i
  ·rw[show dprod F.toDesc pts i 1 (k+1)=dprod F.toDesc pts i 1 k from if_pos h]; exact ih
  ·rw[dprod_other _ _ _ h];refine mul_ne_zero (F:=R F.toDesc) ih fun e=>h ?_
   exact (nodup_get ht hi (by omega) (eli_inj (elB_iff.1 hp i hi) (elB_iff.1 hp k (by omega)) (sub_eq_zero e))).symm
theorem dualV_ne {K:Int} {pts mul:List Int} (hz:gchkD F.toDesc K pts mul=0){i:Nat} (hi:i<pts.length):dprod F.toDesc pts i (eli F.toDesc (mul[i]?.getD 0)) pts.length≠0:=by
 obtain⟨-,-,hlen,hp,hm,ht,h0,-,-⟩:=gchkD_zero hz;rw[dprod_mul];exact mul_ne_zero (F:=R F.toDesc) (eli_ne (elB_iff.1 hm i (by omega)) fun e=>h0 (e ▸ mem_get (by omega))) (dprod_ne hp ht hi _ (Nat.le_refl _))
theorem dualL_get {pts mul:List Int} {i:Nat} (hi:i<pts.length):(dualL F pts mul)[i]?.getD 0=dualV F pts mul i:=lst_get _ hi
theorem dual_dual {K:Int} {pts mul:List Int} (hz:gchkD F.toDesc K pts mul=0):dualL F pts (dualL F pts mul)=mul:=by
 obtain⟨-,-,hlen,hp,hm,ht,h0,-,-⟩:=gchkD_zero hz;rw[eq_lst mul,hlen];refine lst_congr fun i hi=>?_
 rw[←hlen,←eq_lst];have hP:=dprod_ne hp ht hi _ (Nat.le_refl _);have hv:=dualV_ne hz hi;have hmi:=elB_iff.1 hm i (by omega);have hm0:eli F.toDesc (mul[i]?.getD 0)≠0:=eli_ne hmi fun e=>h0 (e ▸ mem_get (by omega))
 unfold dualV;rw[dualL_get hi];unfold dualV;rw[eli_ci,dprod_mul F.toDesc pts i (inv _),dprod_mul F.toDesc pts i (eli F.toDesc _)];generalize dprod F.toDesc pts i 1 pts.length=P at *;have e:inv (eli F.toDesc (mul[i]?.getD 0)*P)*P=inv (eli F.toDesc (mul[i]?.getD 0)):=by
  rw[inv_mul_d,mul_a,inv_mul hP,mul_one]
 rw[e,inv_inv,ci_eli_in hmi]
end
end
section
open Cw
open Cw.CField (inv)
section
variable {F:FD}
theorem pts_inj {pts:List Int} (hp:elB F.toDesc pts=true)(ht:twB pts=false):∀ i j,i<pts.length→j<pts.length→eli F.toDesc (pts[i]?.getD 0)=eli F.toDesc (pts[j]?.getD 0)→i=j :=
 fun i j hi hj e=>nodup_get ht hi hj (eli_inj (elB_iff.1 hp i hi) (elB_iff.1 hp j hj) e)
end
end
section
open Go.RowKit Cw

set_option maxHeartbeats 800000 in
theorem Sub_any (D:Desc)(x y:Int)(A:Option Addr)(n c:Nat)(w:World) :
  Calls Tryz.prog 183 #[.agg #[.int .i64 D.p,.int .i64 D.m,.slice A n c],.int .i64 x,.int .i64 y] w fun e w' =>
   e=.returned (.int .i64 (ci (eli D x - eli D y)))∧Below w.heap.size w w':=by
 have hN:=fun w=>Lib.hid (Neg_any D y A n c w)
 generalize hz:-(eli D y)=z;rw[hz]at hN;have hA:=fun w=>Lib.hid (Add_any D x (ci z) A n c w)
 have hfin:Hid (ci (eli D x+eli D (ci z))=ci (eli D x - eli D y)):=by
  show ci (eli D x+eli D (ci z))=_
  rw[eli_ci,←hz]; rfl
 clear hz;have k0:=Lib.hid (alloc3 w (.int .i64 D.p) (.int .i64 D.m) (.slice A n c) 24);go_enter Tryz.func183,Tryz.ntmps183;go_wp2;go_region_held3 (fun w'=>w'.cell? ⟨w.heap.size,0,none⟩=some (.int .i64 D.p)∧w'.cell? ⟨w.heap.size,1,none⟩=some (.int .i64 D.m)∧w'.cell? ⟨w.heap.size,2,none⟩=some (.slice A n c)) (first | exact k0.out | exact k2.out | exact k1.out)
  (first
   | (go_at_call 150; refine (hN _).out.mono ?_; rintro e w1 ⟨rfl,hb1⟩; have k1:=Lib.hid (keep3 (b:=w.heap.size) hb1 (by simp) k0.out); have hs1:=hb1.size; simp only[World.drew,World.size_alloc]at hs1)
   | (go_at_call 96; refine (hA _).out.mono ?_; rintro e w2 ⟨rfl,hb2⟩; have k2:=Lib.hid (keep3 (b:=w.heap.size) hb2 (by omega) k1.out)))
 go_wp2;go_ret;exact⟨ret_int hfin.out,((((Below.refl _ _).alloc (Nat.le_refl _) _).drew).trans (hb1.mono (by simp))).trans (hb2.mono (by omega))⟩
end
section
open Go.RowKit Cw
attribute [local go_sem] Oper.semAt_some

theorem keep6x2 {B b b':Nat} {W w1:World} {v0 v1 v2 v3 v4 v5 u0 u1 u2 u3 u4 u5:Value} (hb:Below B W w1)(hlt:b<B)(hlt':b'<B)
  (h:W.cell? ⟨b,0,none⟩=some v0∧W.cell? ⟨b,1,none⟩=some v1∧W.cell? ⟨b,2,none⟩=some v2∧W.cell? ⟨b,3,none⟩=some v3∧W.cell? ⟨b,4,none⟩=some v4∧W.cell? ⟨b,5,none⟩=some v5 ∧
   W.cell? ⟨b',0,none⟩=some u0∧W.cell? ⟨b',1,none⟩=some u1∧W.cell? ⟨b',2,none⟩=some u2∧W.cell? ⟨b',3,none⟩=some u3∧W.cell? ⟨b',4,none⟩=some u4∧W.cell? ⟨b',5,none⟩=some u5) :
  w1.cell? ⟨b,0,none⟩=some v0∧w1.cell? ⟨b,1,none⟩=some v1∧w1.cell? ⟨b,2,none⟩=some v2∧w1.cell? ⟨b,3,none⟩=some v3∧w1.cell? ⟨b,4,none⟩=some v4∧w1.cell? ⟨b,5,none⟩=some v5 ∧
   w1.cell? ⟨b',0,none⟩=some u0∧w1.cell? ⟨b',1,none⟩=some u1∧w1.cell? ⟨b',2,none⟩=some u2∧w1.cell? ⟨b',3,none⟩=some u3∧w1.cell? ⟨b',4,none⟩=some u4∧w1.cell? ⟨b',5,none⟩=some u5 :=
 have k:=keep6 hb hlt ⟨h.1,h.2.1,h.2.2.1,h.2.2.2.1,h.2.2.2.2.1,h.2.2.2.2.2.1⟩;have k':=keep6 hb hlt' h.2.2.2.2.2.2
 ⟨k.1,k.2.1,k.2.2.1,k.2.2.2.1,k.2.2.2.2.1,k.2.2.2.2.2,k'⟩

set_option maxRecDepth 100000 in
set_option maxHeartbeats 2000000 in
theorem Same18_eq (P M K:Int)(ml pts mul:List Int)(A A1 A2:Option Addr)(c c1 c2:Nat)(A' A1' A2':Option Addr)(c' c1' c2':Nat)(w:World)(hr:Rd w w.heap.size A ml)(hr1:Rd w w.heap.size A1 pts)(hr2:Rd w w.heap.size A2 mul)
  (hs:Rd w w.heap.size A' ml) (hs1:Rd w w.heap.size A1' pts) (hs2:Rd w w.heap.size A2' mul) (hl:ml.length≤maxLen) (hl1:pts.length≤maxLen) (hl2:mul.length≤maxLen) :
  Calls Tryz.prog 45 #[.agg #[.int .i64 P,.int .i64 M,.slice A ml.length c,.int .i64 K,.slice A1 pts.length c1,.slice A2 mul.length c2],.agg #[.int .i64 P,.int .i64 M,.slice A' ml.length c',.int .i64 K,.slice A1' pts.length c1',.slice A2' mul.length c2']] w fun e w'=>e=.returned (.bool true)∧Below w.heap.size w w':=by
 have hS:=fun W a b=>Lib.hid (Same4_eq P M ml A A' c c' W a b hl)
 unfold maxLen at hl1 hl2;clear hl;obtain⟨Z,hZ⟩:∃ Z,Z=(w.alloc (.cells #[.int .i64 P,.int .i64 M,.slice A ml.length c,.int .i64 K,.slice A1 pts.length c1,.slice A2 mul.length c2] 72)).alloc (.cells #[.int .i64 P,.int .i64 M,.slice A' ml.length c',.int .i64 K,.slice A1' pts.length c1',.slice A2' mul.length c2'] 72):=⟨_,rfl⟩;have hB:Below w.heap.size w Z:=by rw[hZ]; exact ((Below.refl _ _).alloc (Nat.le_refl _) _).alloc (by simp) _
 have hn:w.heap.size+1<Z.heap.size:=by rw[hZ]; simp
 have kz:Z.cell? ⟨w.heap.size,0,none⟩=some (.int .i64 P)∧Z.cell? ⟨w.heap.size,1,none⟩=some (.int .i64 M)∧Z.cell? ⟨w.heap.size,2,none⟩=some (.slice A ml.length c)∧Z.cell? ⟨w.heap.size,3,none⟩=some (.int .i64 K)∧Z.cell? ⟨w.heap.size,4,none⟩=some (.slice A1 pts.length c1)∧Z.cell? ⟨w.heap.size,5,none⟩=some (.slice A2 mul.length c2) ∧
   Z.cell? ⟨w.heap.size+1,0,none⟩=some (.int .i64 P)∧Z.cell? ⟨w.heap.size+1,1,none⟩=some (.int .i64 M)∧Z.cell? ⟨w.heap.size+1,2,none⟩=some (.slice A' ml.length c')∧Z.cell? ⟨w.heap.size+1,3,none⟩=some (.int .i64 K)∧Z.cell? ⟨w.heap.size+1,4,none⟩=some (.slice A1' pts.length c1')∧Z.cell? ⟨w.heap.size+1,5,none⟩=some (.slice A2' mul.length c2'):=by rw[hZ]; simp[go_sem]
 replace hZ:=Lib.hid hZ;replace kz:=Lib.hid kz;go_enter Tryz.func45,Tryz.ntmps45;go_wp2_with (fail);rw[←hZ.out];(with_reducible refine (hS Z ((hr.below hB).more hB.size) ((hs.below hB).more hB.size)).out.mono ?_);rintro e w1 ⟨rfl,hb1⟩;obtain⟨q0,q1,q2,q3,q4,q5,q6,q7,q8,q9,q10,q11⟩:=keep6x2 hb1 (by omega) hn kz.out;go_wp2_with (fail);clear q0 q1 q2 q3 q4 q5 q6 q7 q8 q9 q10 q11;go_loopw [5] (fun i wr=>∃ k:Nat,k≤pts.length∧i=.int .i64 k∧Below Z.heap.size Z wr) (fun i _=>pts.length - (intOf i).toNat)
 case atStart=>exact⟨0,by omega,rfl,hb1⟩
 case round =>
  obtain⟨k,hk,rfl,hbw⟩:=hrel;obtain⟨w2,rfl⟩:∃ w2:World,w2=wr:=⟨_,rfl⟩;have hq:=keep6x2 hbw (by omega) hn kz.out;have hbb:=hB.trans (hbw.mono hB.size);by_cases hlt:k<pts.length
  ·obtain⟨b1,o1,rfl,hb1,hc1⟩:=hr1.at_ hlt;obtain⟨b2,o2,rfl,hb2,hc2⟩:=hs1.at_ hlt;obtain⟨q0,q1,q2,q3,q4,q5,q6,q7,q8,q9,q10,q11⟩:=hq;have hd1:=(hbb.cell (p:=⟨b1,o1+k,none⟩) hb1).trans hc1;have hd2:=(hbb.cell (p:=⟨b2,o2+k,none⟩) hb2).trans hc2;obtain⟨y1,hy1⟩:∃ y,y=pts[k]?.getD 0:=⟨_,rfl⟩;rw[←hy1]at hd1 hd2;have hz:(y1 !=y1)=false:=by simp
   clear hc1 hc2 hy1;go_wp2_with (fail);go_quiet (fail);go_wp2_with (fail);go_roundw
   case rel=>exact⟨k+1,by omega,by go_num,⟨hbw.os,hbw.tape,hbw.output,hbw.size,hbw.block⟩⟩
   case measure=>simp[intOf]; omega
  ·obtain rfl:k=pts.length:=by omega
   obtain⟨q0,q1,q2,q3,q4,q5,q6,q7,q8,q9,q10,q11⟩:=hq;go_wp2_with (fail);clear q0 q1 q2 q3 q4 q5 q6 q7 q8 q9 q10 q11;go_loopw [6] (fun i wr=>∃ k:Nat,k≤mul.length∧i=.int .i64 k∧Below Z.heap.size Z wr) (fun i _=>mul.length - (intOf i).toNat)
   case atStart=>exact⟨0,by omega,rfl,hbw⟩
   case round =>
    clear hbw hbb;obtain⟨k,hk,rfl,hbw⟩:=hrel;obtain⟨w3,rfl⟩:∃ w3:World,w3=wr:=⟨_,rfl⟩;obtain⟨q0,q1,q2,q3,q4,q5,q6,q7,q8,q9,q10,q11⟩:=keep6x2 hbw (by omega) hn kz.out;have hbb:=hB.trans (hbw.mono hB.size);by_cases hlt:k<mul.length
    ·obtain⟨b1,o1,rfl,hb1,hc1⟩:=hr2.at_ hlt;obtain⟨b2,o2,rfl,hb2,hc2⟩:=hs2.at_ hlt;have hd1:=(hbb.cell (p:=⟨b1,o1+k,none⟩) hb1).trans hc1;have hd2:=(hbb.cell (p:=⟨b2,o2+k,none⟩) hb2).trans hc2;obtain⟨y1,hy1⟩:∃ y,y=mul[k]?.getD 0:=⟨_,rfl⟩;rw[←hy1]at hd1 hd2;have hz:(y1 !=y1)=false:=by simp
     clear hc1 hc2 hy1;go_wp2_with (fail);go_quiet (fail);go_wp2_with (fail);go_roundw
     case rel=>exact⟨k+1,by omega,by go_num,⟨hbw.os,hbw.tape,hbw.output,hbw.size,hbw.block⟩⟩
     case measure=>simp[intOf]; omega
    ·obtain rfl:k=mul.length:=by omega
     go_wp2_with (fail);go_ret;exact⟨rfl,hbb⟩

theorem Zero18_zero (w:World):Calls Tryz.prog 44 #[.agg #[.int .i64 0,.int .i64 0,.slice none 0 0,.int .i64 0,.slice none 0 0,.slice none 0 0]] w fun e w'=>e=.returned (.bool true)∧Below w.heap.size w w':=by
 have hS:=fun W=>Lib.hid (Same18_eq 0 0 0 [] [] [] none none none 0 0 0 none none none 0 0 0 W Rd.nil Rd.nil Rd.nil Rd.nil Rd.nil Rd.nil (by decide) (by decide) (by decide))
 rw[show ([]:List Int).length=0 from rfl]at hS;go_enter Tryz.func44,Tryz.ntmps44;go_wp2_with (fail);(with_reducible refine (hS _).out.mono ?_);rintro e w1 ⟨rfl,hb1⟩;go_wp2_with (fail);go_ret;exact⟨rfl,((Below.refl _ _).alloc (Nat.le_refl _) _).trans (hb1.mono (by simp))⟩
end
section
open Go.RowKit Cw
open Cw.CField (inv)

set_option maxRecDepth 100000 in
set_option maxHeartbeats 4000000 in
theorem Dual18_low (F:FD)(K:Int)(pts mul:List Int)(A A1 A2:Option Addr)(c c1 c2:Nat)(w:World)(hr:Rd w w.heap.size A (modL F.toDesc))(hr1:Rd w w.heap.size A1 pts)(hr2:Rd w w.heap.size A2 mul)
  (hlen:mul.length=pts.length) (hl:pts.length≤64) (hK0:0≤K) (hKn:K≤(pts.length:Int)) :
  Calls Tryz.prog 111 #[.agg #[.int .i64 F.p,.int .i64 F.m,.slice A F.mod.length c,.int .i64 K,.slice A1 pts.length c1,.slice A2 mul.length c2]] w fun e w'=>∃ g,e=.returned (.agg #[.int .i64 F.p,.int .i64 F.m,.slice A F.mod.length c,.int .i64 ((pts.length:Int) - K),.slice A1 pts.length c1,.slice (some ⟨g,0,none⟩) pts.length pts.length]) ∧
   Rd w' w'.heap.size (some ⟨g,0,none⟩) (dualL F pts mul)∧w.heap.size≤g∧Below w.heap.size w w':=by
 have hM:=fun y z W hr=>Lib.hid (Mul_any F.toDesc y z A c W hr)
 have hSb:=fun y z W=>Lib.hid (Sub_any F.toDesc y z A F.mod.length c W)
 have hIv:=fun y W hr=>Lib.hid (Inv_any F y A c W hr)
 have hmk:=mk_ints pts.length (by omega);obtain⟨Z,hZ⟩:∃ Z,Z=(w.alloc (.cells #[.int .i64 F.p,.int .i64 F.m,.slice A F.mod.length c,.int .i64 K,.slice A1 pts.length c1,.slice A2 mul.length c2] 72)).alloc (.cells #[.int .i64 0,.int .i64 0,.slice none 0 0,.int .i64 0,.slice none 0 0,.slice none 0 0] 72):=⟨_,rfl⟩;have hB:Below w.heap.size w Z:=by rw[hZ]; exact ((Below.refl _ _).alloc (Nat.le_refl _) _).alloc (by simp) _
 have hZs:Z.heap.size=w.heap.size+2:=by rw[hZ]; simp
 have kz:Z.cell? ⟨w.heap.size,0,none⟩=some (.int .i64 F.p)∧Z.cell? ⟨w.heap.size,1,none⟩=some (.int .i64 F.m)∧Z.cell? ⟨w.heap.size,2,none⟩=some (.slice A F.mod.length c)∧Z.cell? ⟨w.heap.size,3,none⟩=some (.int .i64 K)∧Z.cell? ⟨w.heap.size,4,none⟩=some (.slice A1 pts.length c1)∧Z.cell? ⟨w.heap.size,5,none⟩=some (.slice A2 mul.length c2):=by rw[hZ]; simp[go_sem]
 have sz:Six Z (w.heap.size+1) (.int .i64 0) (.int .i64 0) (.slice none 0 0) (.int .i64 0) (.slice none 0 0) (.slice none 0 0):=by
  rw[hZ]; have:=Six.new (w.alloc (.cells #[.int .i64 F.p,.int .i64 F.m,.slice A F.mod.length c,.int .i64 K,.slice A1 pts.length c1,.slice A2 mul.length c2] 72)) (.int .i64 0) (.int .i64 0) (.slice none 0 0) (.int .i64 0) (.slice none 0 0) (.slice none 0 0) 72; rw[World.size_alloc]at this; exact this
 obtain⟨Y,hY⟩:∃ Y,Y=Z.alloc (.cells (Array.replicate pts.length (Value.int .i64 0)) 3):=⟨_,rfl⟩;obtain⟨gW,hgW⟩:∃ gW,gW=w.heap.size+1+1:=⟨_,rfl⟩;have hib:IB Y gW (upd pts.length 0 (dualV F pts mul)):=by
  rw[upd_zero,hY,hgW,show w.heap.size+1+1=Z.heap.size by omega]; exact IB.newz Z pts.length
 have hbY:Below Z.heap.size Z Y:=by rw[hY]; exact (Below.refl _ _).alloc (Nat.le_refl _) _
 have hYs:gW<Y.heap.size:=by rw[hY,World.size_alloc]; omega
 have kY:=Lib.hid (keep6 hbY (by omega) kz);have sY:=Lib.hid (sz.keep hbY (by omega));have hBY:=hB.trans (hbY.mono hB.size);have hlenH:=Lib.hid hlen;rw[hZ]at hY;replace hY:=Lib.hid hY;have hgW1:w.heap.size+1<gW:=by omega
 replace hib:=Lib.hid hib;clear hlen kz sz hbY hB hZs hZ;go_enter Tryz.func111,Tryz.ntmps111;go_wp2_with (fail);rw[←hY.out];simp only[←hgW];replace hgW:=Lib.hid hgW;go_loopw [5,6,7] (fun i _ _ wr=>∃ k:Nat,k≤pts.length∧i=.int .i64 k∧Hid (wr.cell? ⟨w.heap.size,0,none⟩=some (.int .i64 F.p)∧wr.cell? ⟨w.heap.size,1,none⟩=some (.int .i64 F.m)∧wr.cell? ⟨w.heap.size,2,none⟩=some (.slice A F.mod.length c)∧wr.cell? ⟨w.heap.size,3,none⟩=some (.int .i64 K)∧wr.cell? ⟨w.heap.size,4,none⟩=some (.slice A1 pts.length c1)∧wr.cell? ⟨w.heap.size,5,none⟩=some (.slice A2 mul.length c2))∧Hid (Six wr (w.heap.size+1) (.int .i64 0) (.int .i64 0) (.slice none 0 0) (.int .i64 0) (.slice none 0 0) (.slice none 0 0))∧Hid (IB wr gW (upd pts.length k (dualV F pts mul)))∧Below w.heap.size w wr∧gW<wr.heap.size) (fun i _ _ _=>pts.length - (intOf i).toNat)
 case atStart=>exact⟨0,by omega,rfl,kY,sY,hib,hBY,hYs⟩
 case round =>
  clear kY sY hib hBY hYs;obtain⟨wo,rfl⟩:∃ wo:World,wo=wr:=⟨_,rfl⟩;obtain⟨k,hk,rfl,kk,sx,hib,hBw,hgo⟩:=hrel;have hlto:w.heap.size<wo.heap.size:=by omega
  by_cases hkn:k<pts.length
  ·obtain⟨b1,o1,rfl,hbb1,hc1⟩:=hr1.at_ hkn;obtain⟨b2,o2,rfl,hbb2,hc2⟩:=hr2.at_ (by rw[hlenH.out]; exact hkn:k<mul.length);have hd1:=(hBw.cell (p:=⟨b1,o1+k,none⟩) hbb1).trans hc1;have hd2:=(hBw.cell (p:=⟨b2,o2+k,none⟩) hbb2).trans hc2;obtain⟨x,hx⟩:∃ x,x=pts[k]?.getD 0:=⟨_,rfl⟩;obtain⟨y,hy⟩:∃ y,y=mul[k]?.getD 0:=⟨_,rfl⟩;rw[←hx]at hd1;rw[←hy]at hd2;replace hx:=Lib.hid hx;replace hy:=Lib.hid hy;have hk0:(0:Int)≤(k:Int):=by omega
   have hk1:(k:Int)<(pts.length:Int):=by omega
   have hk2:(k:Int)<(mul.length:Int):=by rw[hlenH.out]; exact hk1
   replace hd1:=Lib.hid hd1;clear hc1 hc2;obtain⟨q0,q1,q2,q3,q4,q5⟩:=kk.out;go_wp2_with (fail);clear q0 q1 q2 q3 q4 q5 hd2;go_loopw [7,6] (fun j' y' wr=>∃ (j:Nat) (z:Int),j≤pts.length∧j'=.int .i64 j∧y'=.int .i64 z∧Hid (eli F.toDesc z=dprod F.toDesc pts k (eli F.toDesc y) j)∧Below wo.heap.size wo wr) (fun j' _ _=>pts.length - (intOf j').toNat)
   case atStart=>exact⟨0,y,by omega,rfl,rfl,rfl,Below.refl _ _⟩
   case round =>
    obtain⟨wi,rfl⟩:∃ wi:World,wi=wr:=⟨_,rfl⟩;obtain⟨j,z,hj,rfl,rfl,hz,hbi⟩:=hrel;have hbi1:=hBw.trans (hbi.mono hBw.size);have hri:=(hr.below hbi1).more hbi1.size;have kki:=keep6 hbi hlto kk.out;have hlti:w.heap.size<wi.heap.size:=Nat.lt_of_lt_of_le hlto hbi.size;by_cases hjn:j<pts.length
    ·obtain⟨b1',o1',ee,hbb1',hc1⟩:=hr1.at_ hjn
     cases ee
     have hd3:=(hbi1.cell (p:=⟨b1,o1+j,none⟩) hbb1').trans hc1;have hd1i:=(hbi.cell (p:=⟨b1,o1+k,none⟩) (Nat.lt_of_lt_of_le hbb1 hBw.size)).trans hd1.out;obtain⟨xj,hxj⟩:∃ xj,xj=pts[j]?.getD 0:=⟨_,rfl⟩;rw[←hxj]at hd3;replace hxj:=Lib.hid hxj;have hj0:(0:Int)≤(j:Int):=by omega
     have hj1:(j:Int)<(pts.length:Int):=by omega
     clear hc1;by_cases hjk:j=k
     ·have hjb:((j:Int) !=(k:Int))=false:=by rw[bne_eq_false_iff_eq]; omega
      have hz2:Hid (eli F.toDesc z=dprod F.toDesc pts k (eli F.toDesc y) (j+1)):=by unfold Hid; rw[hz.out,hjk,dprod_self]
      clear hjk hz;go_wp2_with (fail);go_roundw
      case rel=>exact⟨j+1,z,by omega,by go_num,rfl,hz2,hbi⟩
      case measure=>simp[intOf]; omega
     ·have hjb:((j:Int) !=(k:Int))=true:=by rw[bne_iff_ne]; omega
      have hS:=hSb x xj;have hM1:=fun W h=>(hM z (ci (eli F.toDesc x - eli F.toDesc xj)) W h).out
      rw[eli_ci]at hM1;have hz2:Hid (eli F.toDesc z*(eli F.toDesc x - eli F.toDesc xj)=dprod F.toDesc pts k (eli F.toDesc y) (j+1)):=by unfold Hid; rw[hz.out,dprod_other _ _ _ hjk,hx.out,hxj.out]
      rw[hz2.out]at hM1;replace hM1:=fun W h=>Lib.hid (hM1 W h)
      have kk8:=Lib.hid (show _∧_∧_∧_∧_∧_∧_∧_ from ⟨kki.1,kki.2.1,kki.2.2.1,kki.2.2.2.1,kki.2.2.2.2.1,kki.2.2.2.2.2,hd1i,hd3⟩);have hb1':=Nat.lt_of_lt_of_le hbb1 hbi1.size;clear hjk hz kki hd1i hd3;go_wp2_with (fail);go_region_held3 (fun w'=>w'.cell? ⟨w.heap.size,0,none⟩=some (.int .i64 F.p)∧w'.cell? ⟨w.heap.size,1,none⟩=some (.int .i64 F.m)∧w'.cell? ⟨w.heap.size,2,none⟩=some (.slice A F.mod.length c)∧w'.cell? ⟨w.heap.size,3,none⟩=some (.int .i64 K)∧w'.cell? ⟨w.heap.size,4,none⟩=some (.slice (some ⟨b1,o1,none⟩) pts.length c1)∧w'.cell? ⟨w.heap.size,5,none⟩=some (.slice (some ⟨b2,o2,none⟩) mul.length c2)∧w'.cell? ⟨b1,o1+k,none⟩=some (.int .i64 x)∧w'.cell? ⟨b1,o1+j,none⟩=some (.int .i64 xj)) (first | exact kk8.out | exact kk9.out | exact kk10.out)
       (first
        | (go_at_call 183; (with_reducible refine (hS _).out.mono ?_); rintro e w5 ⟨rfl,hb5⟩; have kk9:=Lib.hid (keep8 hb5 hlti hb1' hb1' kk8.out); have hs5:wi.heap.size≤w5.heap.size:=hb5.size; have hB5:=hbi1.drew.trans (hb5.mono hbi1.size); have hM2:=hM1 w5 ((hr.below hB5).more hB5.size))
        | (go_at_call 29; (with_reducible refine hM2.out.mono ?_); rintro e w6 ⟨rfl,hb6⟩; have kk10:=Lib.hid (keep8 hb6 (Nat.lt_of_lt_of_le hlti hs5) (Nat.lt_of_lt_of_le hb1' hs5) (Nat.lt_of_lt_of_le hb1' hs5) kk9.out)))
      go_wp2_with (fail);go_roundw
      case rel=>exact⟨j+1,_,by omega,by go_num,rfl,by unfold Hid; exact eli_ci _,(hbi.drew.trans (hb5.mono hbi.size)).trans (hb6.mono (Nat.le_trans hbi.size hs5))⟩
      case measure=>simp[intOf]; omega
    ·obtain rfl:j=pts.length:=by omega
     have hval:ci (inv (eli F.toDesc z))=dualV F pts mul k:=by unfold dualV; rw[hz.out,hy.out]
     have hI:=fun W h=>(hIv z W h).out
     rw[hval]at hI;have hI2:=Lib.hid (hI wi hri);obtain⟨dv,hdv⟩:∃ dv,dv=dualV F pts mul k:=⟨_,rfl⟩;rw[←hdv]at hI2;have hibi:=hib.out.below hbi hgo;have hgi:gW<wi.heap.size:=Nat.lt_of_lt_of_le hgo hbi.size;have sxi:=sx.out.keep hbi (by omega);replace hibi:=Lib.hid hibi;replace hdv:=Lib.hid hdv;replace sxi:=Lib.hid sxi;clear hval hz hI;have kkiH:=Lib.hid kki;obtain⟨q0,q1,q2,q3,q4,q5⟩:=kki;go_wp2_with (fail);(with_reducible refine hI2.out.mono ?_);rintro e w5 ⟨rfl,hb5⟩;have hib5:=hibi.out.below hb5 hgi;have hcW:=hib5.cell (i:=k) (by rw[upd_length]; exact hkn);have hfW:=hib5.frozen k;have hset:=hib5.set_ k dv;rw[hdv.out,upd_set,←hdv.out]at hset;have hb56:Below gW w5 (w5.setCell ⟨gW,k,none⟩ (.int .i64 dv)):=(Below.refl _ _).setCell (p:=⟨gW,k,none⟩) (Nat.le_refl _) _;have hg5:gW<w5.heap.size:=Nat.lt_of_lt_of_le hgi hb5.size;have kk6:=Lib.hid (keep6 hb56 (by omega) (keep6 hb5 hlti kkiH.out));have sx6:=Lib.hid ((sxi.out.keep hb5 (by omega)).keep hb56 hgW1);have hB6:=(hbi1.trans (hb5.mono hbi1.size)).trans (hb56.mono (by omega));have hs6:gW<(w5.setCell ⟨gW,k,none⟩ (.int .i64 dv)).heap.size:=Nat.lt_of_lt_of_le hg5 (grown_set _ _ _).size;replace hset:=Lib.hid hset;clear q0 q1 q2 q3 q4 q5;go_wp2_with (fail);go_roundw
     case rel=>exact⟨k+1,by omega,by go_num,kk6,sx6,hset,hB6,hs6⟩
     case measure=>simp[intOf]; omega
  ·obtain rfl:k=pts.length:=by omega
   obtain⟨q0,q1,q2,q3,q4,q5⟩:=kk.out;obtain⟨p0,p1,p2,p3,p4,p5,e0,e1,e2,e3,e4,e5⟩:=sx.out;have hwr:=(IntWalk.i64_in ((pts.length:Int) - K) (by omega));have hib2:=hib.out;rw[upd_full]at hib2;replace hib2:=Lib.hid hib2;go_wp2_with (fail);refine bodyPost_ret (v:=.agg #[.int .i64 F.p,.int .i64 F.m,.slice A F.mod.length c,.int .i64 ((pts.length:Int) - K),.slice A1 pts.length c1,.slice (some ⟨gW,0,none⟩) pts.length pts.length]) (by simp[results,Tryz.results111,go_sem,p0,p1,p2,p3,p4,p5]) rfl ⟨gW,rfl,?_,by omega,hBw.trans ((set6 _ _ _ _ _ _).mono (Nat.le_succ _))⟩;have hrd:Rd wo wo.heap.size (some ⟨gW,0,none⟩) (dualL F pts mul):=hib2.out.rd;exact (hrd.set6 (fun a e=>by cases e; show gW≠_; omega) _ _ _ _ _ _).more (by simp[World.setCell])
theorem Dual18_any (F:FD)(K:Int)(pts mul:List Int)(A A1 A2:Option Addr)(c c1 c2:Nat)(w:World)(hr:Rd w w.heap.size A (modL F.toDesc))(hr1:Rd w w.heap.size A1 pts)(hr2:Rd w w.heap.size A2 mul)
  (hlen:mul.length=pts.length) (hl:pts.length≤64) (hK0:0≤K) (hKn:K≤(pts.length:Int)) :
  Calls Tryz.prog 111 #[.agg #[.int .i64 F.p,.int .i64 F.m,.slice A F.mod.length c,.int .i64 K,.slice A1 pts.length c1,.slice A2 mul.length c2]] w fun e w'=>∃ g,e=.returned (.agg #[.int .i64 F.p,.int .i64 F.m,.slice A F.mod.length c,.int .i64 ((pts.length:Int) - K),.slice A1 pts.length c1,.slice (some ⟨g,0,none⟩) pts.length pts.length]) ∧
   Rd w' w'.heap.size (some ⟨g,0,none⟩) (dualL F pts mul)∧Below w.heap.size w w' :=
 (Dual18_low F K pts mul A A1 A2 c c1 c2 w hr hr1 hr2 hlen hl hK0 hKn).mono fun _ _ ⟨g,e,h,_,hb⟩=>⟨g,e,h,hb⟩
end
end Go.Proofs.YtjdoneanohhkmaaGreat
