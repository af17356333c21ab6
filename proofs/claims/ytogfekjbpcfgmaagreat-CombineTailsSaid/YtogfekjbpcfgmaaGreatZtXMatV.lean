/- The program's elimination. -/
import Derived.Deep.CutRange
import Derived.IntWalk
import Derived.Test.YtogfekjbpcfgmaaGreatZtXMatU
import Derived.Test.YtogfekjbpcfgmaaGreatZtXTk
namespace Go.Proofs.YtogfekjbpcfgmaaGreat
open Go.RowKit Cw
open Cw.CField (inv)
attribute [local go_sem] Oper.semAt_some

set_option maxRecDepth 100000 in
set_option maxHeartbeats 1000000 in
theorem sEach2_any (c1 c2:Value)(P:World→Prop)(b5 b7:Nat)(rows:Value)(w:World)(h5:w.cell? ⟨b5,0,none⟩=some rows)(hS:Calls Tryz.prog 226 #[rows,c1,c2] w fun e w'=>e=.returned (.tuple #[])∧w'.cell? ⟨b7,0,none⟩=some (.slice none 0 0)∧P w') :
  Calls Tryz.prog 225 #[.func (.func 226) #[] #[c1,c2],.pointer (some ⟨b5,0,none⟩),.pointer (some ⟨b7,0,none⟩)] w fun e w'=>e=.returned (.tuple #[])∧P w':=by
 replace hS:=Lib.hid hS;go_enter Tryz.func225,Tryz.ntmps225;go_wp2_with (fail);(with_reducible refine hS.out.mono ?_);rintro e w1 ⟨rfl,h7,hP⟩;go_wp2_with (fail);go_end0;exact⟨rfl,hP⟩

set_option maxRecDepth 100000 in
set_option maxHeartbeats 1000000 in
theorem sEach3_any (c1 c2 c3:Value)(P:World→Prop)(b5 b7:Nat)(rows:Value)(w:World)(h5:w.cell? ⟨b5,0,none⟩=some rows)(hS:Calls Tryz.prog 227 #[rows,c1,c2,c3] w fun e w'=>e=.returned (.tuple #[])∧w'.cell? ⟨b7,0,none⟩=some (.slice none 0 0)∧P w') :
  Calls Tryz.prog 225 #[.func (.func 227) #[] #[c1,c2,c3],.pointer (some ⟨b5,0,none⟩),.pointer (some ⟨b7,0,none⟩)] w fun e w'=>e=.returned (.tuple #[])∧P w':=by
 replace hS:=Lib.hid hS;go_enter Tryz.func225,Tryz.ntmps225;go_wp2_with (fail);(with_reducible refine hS.out.mono ?_);rintro e w1 ⟨rfl,h7,hP⟩;go_wp2_with (fail);go_end0;exact⟨rfl,hP⟩

set_option maxRecDepth 100000 in
set_option maxHeartbeats 1000000 in
theorem sEach4_any (c1 c2 c3 c4:Value)(P:World→Prop)(b5 b7:Nat)(rows:Value)(w:World)(h5:w.cell? ⟨b5,0,none⟩=some rows)(hS:Calls Tryz.prog 228 #[rows,c1,c2,c3,c4] w fun e w'=>e=.returned (.tuple #[])∧w'.cell? ⟨b7,0,none⟩=some (.slice none 0 0)∧P w') :
  Calls Tryz.prog 225 #[.func (.func 228) #[] #[c1,c2,c3,c4],.pointer (some ⟨b5,0,none⟩),.pointer (some ⟨b7,0,none⟩)] w fun e w'=>e=.returned (.tuple #[])∧P w':=by
 replace hS:=Lib.hid hS;go_enter Tryz.func225,Tryz.ntmps225;go_wp2_with (fail);(with_reducible refine hS.out.mono ?_);rintro e w1 ⟨rfl,h7,hP⟩;go_wp2_with (fail);go_end0;exact⟨rfl,hP⟩

structure EB {D:Desc} (w:World) (L g n m s gf cl H:Nat) (pv:Value) (l:List Int) (M:Nat→Nat→R D):Prop where
 rows:∀ q,(q=pv.ownBlock∨∃ X,q=some X∧(s≤X∧X<s+1+1+1∨(X=H∨X=H+1)))→MP w L g n m q M
 b4:w.cell? ⟨s,0,none⟩=some (.pointer (some ⟨gf,0,none⟩))
 b5:w.cell? ⟨s+1,0,none⟩=some (.slice (some ⟨g,0,none⟩) n cl)
 b7:w.cell? ⟨s+1+1,0,none⟩=some (.slice none 0 0)
 own:Own w (s+1+1+1) pv l
 lt:s+1+1<w.heap.size
 gs:g<s
section
variable {D:Desc} {w w':World} {L g n m s gf cl H:Nat} {pv:Value} {l:List Int} {M M':Nat→Nat→R D}
theorem EB.below {B:Nat} (h:EB w L g n m s gf cl H pv l M)(hb:Below B w w')(hB:w.heap.size≤B):EB w' L g n m s gf cl H pv l M:=by
 have hl:=h.lt;exact⟨fun q hq=>(h.rows q hq).below hb hB,(hb.cell (p:=⟨s,0,none⟩) (show s<B by omega)).trans h.b4,(hb.cell (p:=⟨s+1,0,none⟩) (show s+1<B by omega)).trans h.b5,(hb.cell (p:=⟨s+1+1,0,none⟩) (show s+1+1<B by omega)).trans h.b7,h.own.below hb hB,Nat.lt_of_lt_of_le hl hb.size,h.gs⟩
theorem MP.any {q:Option Nat} (h:MP w L g n m q M):MP w L g n m none M:=by
 obtain⟨hgl,b,c,h1,h2⟩:=h;exact⟨hgl,b,c,fun i hi=>(h1 i hi).to (by simp),h2⟩
theorem MP.fresh {q:Option Nat} {X B:Nat} (h:MP w L g n m q M)(hb:Below B w w')(hB:w.heap.size≤B)(hX:w.heap.size≤X):MP w' L g n m (some X) M :=
 (h.any.grown (q:=none) (below_grown hb hB) (by simp) (.inr fun k e=>by injection e with e; omega))
theorem EB.fresh {B X:Nat} (h:EB w L g n m s gf cl H pv l M)(hb:Below B w w')(hB:w.heap.size≤B)(hX:w.heap.size≤X):EB w' L g n m s gf cl X pv l M:=by
 have h2:=h.below hb hB;refine⟨fun q hq=>?_,h2.b4,h2.b5,h2.b7,h2.own,h2.lt,h2.gs⟩;rcases hq with e | ⟨Y,e,e2 | e2⟩
 ·exact h2.rows q (.inl e)
 ·exact h2.rows q (.inr ⟨Y,e,.inl e2⟩)
 ·rw[e]; exact (h.rows _ (.inl rfl)).fresh hb hB (by omega)
theorem EB.step {b:Nat} (h:EB w L g n m s gf cl H pv l M)(hg:w.grownBy w' (some b))(hne:∀ X,s≤X→X<s+1+1+1→X≠b)(hp:pv.ownBlock≠some b)
  (hr:∀ q,(q=pv.ownBlock∨∃ X,q=some X∧(s≤X∧X<s+1+1+1∨(X=H∨X=H+1)))→MP w' L g n m q M'):EB w' L g n m s gf cl H pv l M' :=
 ⟨hr,hg.cell h.b4 (fun e=>hne s (by omega) (by omega) (by injection e)),hg.cell h.b5 (fun e=>hne (s+1) (by omega) (by omega) (by injection e)),hg.cell h.b7 (fun e=>hne (s+1+1) (by omega) (by omega) (by injection e)),h.own.kept hg (.inr hp),Nat.lt_of_lt_of_le h.lt hg.size,h.gs⟩
theorem EB.pg (h:EB w L g n m s gf cl H pv l M):pv.ownBlock≠some g:=fun e=>by have:=h.own.lt _ e; have:=h.gs; omega
theorem EB.list {v':Value} {l':List Int} (h:EB w L g n m s gf cl H pv l M)(hb:Below (s+1+1+1) w w')(ho:Own w' (s+1+1+1) v' l')(hg:w.grownBy w' pv.ownBlock)(hv:v'.ownBlock=pv.ownBlock∨(∀ k,v'.ownBlock=some k→w.heap.size≤k)) :
  EB w' L g n m s gf cl s v' l' M:=by
 have hl:=h.lt;refine⟨fun q hq=>?_,(hb.cell (p:=⟨s,0,none⟩) (show s<_ by omega)).trans h.b4,(hb.cell (p:=⟨s+1,0,none⟩) (show s+1<_ by omega)).trans h.b5,(hb.cell (p:=⟨s+1+1,0,none⟩) (show s+1+1<_ by omega)).trans h.b7,ho,Nat.lt_of_lt_of_le hl hb.size,h.gs⟩;rcases hq with rfl | ⟨Y,rfl,e2⟩
 ·exact (h.rows _ (.inl rfl)).grown hg h.pg hv
 ·obtain⟨hgl,b,c,h1,h2⟩:=h.rows _ (.inl rfl);refine⟨Nat.lt_of_lt_of_le hgl hg.size,b,c,fun i hi=>(h1 i hi).grown hgl hg h.pg (h1 i hi).nq ?_,h2⟩;exact ((h.rows (some Y) (.inr ⟨Y,rfl,.inl (by omega)⟩)).row hi (h1 i hi)).nq
theorem MP.other {q:Option Nat} {X:Nat} (h1:MP w L g n m (some X) M)(h2:MP w L g n m q M)(hg:w.grownBy w' (some X))(hX:X≠g):MP w' L g n m q M:=by
 obtain⟨hgl,b,c,h3,h4⟩:=h2;exact⟨Nat.lt_of_lt_of_le hgl hg.size,b,c,fun i hi=>(h3 i hi).grown hgl hg (fun e=>hX (by injection e)) (h1.row hi (h3 i hi)).nq (h3 i hi).nq,h4⟩
theorem EB.setBox {X:Nat} {v:Value} (h:EB w L g n m s gf cl H pv l M)(hX:X=H∨X=H+1)(hs:s+1+1<X)(hp:pv.ownBlock≠some X):EB (w.setCell ⟨X,0,none⟩ v) L g n m s gf cl H pv l M :=
 h.step (grown_set _ ⟨X,0,none⟩ _) (fun Y _ _=>show Y≠X by omega) hp fun q hq=>(h.rows (some X) (.inr ⟨X,rfl,.inr hX⟩)).other (h.rows q hq) (grown_set _ ⟨X,0,none⟩ _) (by have:=h.gs; omega)
theorem EB.base (h:EB w L g n m s gf cl H pv l M):EB w L g n m s gf cl s pv l M :=
 ⟨fun q hq=>h.rows q (hq.imp id fun⟨X,e,e2⟩=>⟨X,e,.inl (by omega)⟩),h.b4,h.b5,h.b7,h.own,h.lt,h.gs⟩
end
theorem keep5g {B:Nat} {p1 p2 p3 p4 p5:Addr} {W w1:World} {v1 v2 v3 v4 v5:Value} (hb:Below B W w1)(h1:p1.block<B)(h2:p2.block<B)(h3:p3.block<B)(h4:p4.block<B)(h5:p5.block<B)(h:W.cell? p1=some v1∧W.cell? p2=some v2∧W.cell? p3=some v3∧W.cell? p4=some v4∧W.cell? p5=some v5) :
  w1.cell? p1=some v1∧w1.cell? p2=some v2∧w1.cell? p3=some v3∧w1.cell? p4=some v4∧w1.cell? p5=some v5 :=
 ⟨(hb.cell h1).trans h.1,(hb.cell h2).trans h.2.1,(hb.cell h3).trans h.2.2.1,(hb.cell h4).trans h.2.2.2.1,(hb.cell h5).trans h.2.2.2.2⟩

theorem after_alloc {W w8:World} {v:Value} {t:TypeId} (hb:Below (W.alloc (.cells #[v] t)).drew.heap.size (W.alloc (.cells #[v] t)).drew w8):w8.cell? ⟨W.heap.size,0,none⟩=some v∧w8.frozen? ⟨W.heap.size,0,none⟩=false :=
 ⟨(hb.cell (p:=⟨W.heap.size,0,none⟩) (by simp)).trans (by simp[go_sem]),(hb.frozen (p:=⟨W.heap.size,0,none⟩) (by simp)).trans (by simp[go_sem])⟩
set_option maxRecDepth 100000 in
set_option maxHeartbeats 8000000 in
theorem gElim_any (F:FD)(n m cols:Nat)(M:Nat→Nat→R F.toDesc)(gf g cl L:Nat)(w:World)(hg:GF w L gf F)(hm:MP w L g n m none M)(hL:L≤w.heap.size)(hLg:L≤g)(hn:n≤70000)(hmm:m≤70000)(hcm:cols≤m) :
  Calls Tryz.prog 202 #[.pointer (some ⟨gf,0,none⟩),.slice (some ⟨g,0,none⟩) n cl,.int .i64 cols,.slice none 0 0] w fun e w'=>∃ vp det,e=.returned (.tuple #[vp,.int .i64 det])∧Own w' w.heap.size vp (natL (elS n M cols).2) ∧
   MP w' L g n m vp.ownBlock (elS n M cols).1∧Below L w w':=by
 have hmf:∀ (fn:Fn) (first cap:Array Value) (w:World),(Instr.makeFunc fn first cap).run Tryz.prog w=.ok (.func fn first cap) w:=fun _ _ _ _=>rfl
 obtain⟨s,hs⟩:∃ s,s=w.heap.size:=⟨_,rfl⟩;obtain⟨Y,hY⟩:∃ Y,Y=((w.alloc (.cells #[.pointer (some ⟨gf,0,none⟩)] 66)).alloc (.cells #[.slice (some ⟨g,0,none⟩) n cl] 25)).alloc (.cells #[.slice none 0 0] 25):=⟨_,rfl⟩;have hEY:EB Y L g n m s gf cl s (.slice none 0 0) (natL (elS n M 0).2) (elS n M 0).1:=by
  have hB:Below w.heap.size w Y:=by rw[hY]; exact (((Below.refl _ _).alloc (Nat.le_refl _) _).alloc (by simp) _).alloc (by simp; omega) _
  refine⟨fun q hq=>?_,?_,?_,?_,Own.nil _ _,by rw[hY,hs]; simp,by rw[hs]; exact hm.1⟩
  ·rcases hq with e | ⟨X,e,e2⟩
   ·rw[e]; exact hm.below hB (Nat.le_refl _)
   ·rw[e]; exact hm.fresh hB (Nat.le_refl _) (by omega)
  all_goals
   rw[hY,hs];simp[go_sem]
 have hBY:Below L w Y:=by rw[hY]; exact (((Below.refl _ _).alloc hL _).alloc (by simp; omega) _).alloc (by simp; omega) _
 replace hY:=Lib.hid hY;go_enter Tryz.func202,Tryz.ntmps202;go_wp2_with (fail);rw[←hY.out];simp only[←hs];replace hs:=Lib.hid hs;go_loopw [13,12,10] (fun cS pv dS wr=>∃ (j:Nat) (det:Int),j≤cols∧cS=.int .i64 j∧dS=.int .i64 det∧EB wr L g n m s gf cl s pv (natL (elS n M j).2) (elS n M j).1∧Below L w wr) (fun cS _ _ _=>cols - (intOf cS).toNat)
 case atStart=>exact⟨0,1,by omega,rfl,rfl,hEY,hBY⟩
 case round =>
  clear hEY hBY hY hm;obtain⟨wo,rfl⟩:∃ wo:World,wo=wr:=⟨_,rfl⟩;obtain⟨j,det,hj,rfl,rfl,hE,hbw⟩:=hrel;have hale:=elS_le n M j;obtain⟨S,hS⟩:∃ S,S=elS n M j:=⟨_,rfl⟩;rw[←hS]at hE hale;obtain⟨a,ha⟩:∃ a,a=S.2.length:=⟨_,rfl⟩;rw[←ha]at hale;have hnl:(natL S.2).length=a:=by unfold natL; rw[List.length_map,ha]
  have hown:=hE.own;obtain⟨Ap,cp,rfl,hcp,hrp,hAp⟩:=hown.form;rw[hnl]at hE hcp ⊢;replace hS:=Lib.hid hS;replace ha:=Lib.hid ha;replace hnl:=Lib.hid hnl;clear hown hrp hAp;have h4:=hE.b4;have h5:=hE.b5;have h7:=hE.b7;have hlt:=hE.lt;by_cases hjc:j<cols
  ·by_cases han:a<n
   ·obtain⟨H,hH⟩:∃ H,H=wo.heap.size:=⟨_,rfl⟩;obtain⟨w2,hw2⟩:∃ w2,w2=(wo.alloc (.cells #[.int .i64 (a:Int)] 3)).alloc (.cells #[.int .i64 (a:Int)] 3):=⟨_,rfl⟩;have hb2:Below wo.heap.size wo w2:=by rw[hw2]; exact ((Below.refl _ _).alloc (Nat.le_refl _) _).alloc (by simp) _
    have hE2:=hE.fresh (X:=H) hb2 (Nat.le_refl _) (Nat.le_of_eq hH.symm);have hLo:L≤wo.heap.size:=Nat.le_trans hL hbw.size;have hB2:Below L w w2:=hbw.trans (hb2.mono hLo);have hx2:w2.cell? ⟨H,0,none⟩=some (.int .i64 (a:Int))∧w2.cell? ⟨H+1,0,none⟩=some (.int .i64 (a:Int))∧w2.frozen? ⟨H+1,0,none⟩=false∧H+1<w2.heap.size:=by
     rw[hw2,hH]; refine⟨by simp[go_sem],by simp[go_sem],by simp[go_sem],by simp⟩
    have hpH:∀ e,(Value.slice Ap a cp).ownBlock=some e→e<H:=fun e he=>by rw[hH]; exact (hE.own.lt e he).2
    have hsH:s+1+1<H:=by rw[hH]; exact hlt
    have hgs:=hE.gs;have hLH:L≤H:=by rw[hH]; exact hLo
    replace hw2:=Lib.hid hw2;clear hb2;go_wp2_with (fail);rw[←hw2.out];simp only[←hH];replace hH:=Lib.hid hH;clear h4 h5 h7 hlt hE hbw hLo hw2;go_loopw [] (fun wr=>∃ k:Nat,a≤k∧k≤n∧wr.cell? ⟨H+1,0,none⟩=some (.int .i64 (k:Int))∧wr.frozen? ⟨H+1,0,none⟩=false∧wr.cell? ⟨H,0,none⟩=some (.int .i64 (a:Int))∧EB wr L g n m s gf cl H (.slice Ap a cp) (natL S.2) S.1∧Below L w wr∧H+1<wr.heap.size∧Hid (∀ t,a≤t→t<k→S.1 t j=0)) (fun wr=>n - (intOf ((wr.cell? ⟨H+1,0,none⟩).getD undef)).toNat)
    case atStart=>exact⟨a,Nat.le_refl _,by omega,hx2.2.1,hx2.2.2.1,hx2.1,hE2,hB2,hx2.2.2.2,fun t h1 h2=>absurd h2 (by omega)⟩
    case round =>
     clear hE2 hB2 hx2;obtain⟨w3,rfl⟩:∃ w3:World,w3=wr:=⟨_,rfl⟩;obtain⟨k,hak,hkn,hxk,hfk,hxa,hE3,hB3,hl3,hzero⟩:=hrel;have h4:=hE3.b4;have h5:=hE3.b5;have h7:=hE3.b7;have hgl:=(hE3.rows _ (.inl rfl)).1;have hk0:(0:Int)≤(k:Int):=by omega
     have hj0:(0:Int)≤(j:Int):=by omega
     have hjm:(j:Int)<(m:Int):=by omega
     by_cases hkl:k<n
     ·have hkl1:(k:Int)<(n:Int):=by omega
      obtain⟨bk,ck,hrk,-⟩:=(hE3.rows _ (.inl rfl)).at_ hkl;have hxr:=hrk.hd;have hyk:=(hrk.cells j (by omega)).1;obtain⟨y,hy⟩:∃ y,y=ci (S.1 k j):=⟨_,rfl⟩;rw[←hy]at hyk;clear hrk;by_cases hz:S.1 k j=0
      ·have hzb:(y==0)=true:=by rw[beq_iff_eq,hy,hz,ci_zero]
       have hzero2:Hid (∀ t,a≤t→t<k+1→S.1 t j=0):=fun t h1 h2=>by
        by_cases e:t=k
        ·rw[e]; exact hz
        ·exact hzero.out t h1 (by omega)
       have hnew:Hid ((w3.setCell ⟨H+1,0,none⟩ (.int .i64 ((k:Int)+1))).cell? ⟨H+1,0,none⟩=some (.int .i64 ((k:Int)+1))):=World.cell?_setCell_same _ _ _ hxk;have hE4:=Lib.hid (hE3.setBox (X:=H+1) (v:=.int .i64 ((k:Int)+1)) (.inr rfl) (by omega) (fun e=>by have:=hpH _ e; omega));have hB4:=Lib.hid (hB3.setCell (p:=⟨H+1,0,none⟩) (show L≤H+1 by omega) (.int .i64 ((k:Int)+1)));have hx4:Hid ((w3.setCell ⟨H+1,0,none⟩ (.int .i64 ((k:Int)+1))).cell? ⟨H,0,none⟩=some (.int .i64 (a:Int))):=(World.cell?_setCell_far _ _ _ _ (show H+1≠H by omega)).trans hxa;have hf4:Hid ((w3.setCell ⟨H+1,0,none⟩ (.int .i64 ((k:Int)+1))).frozen? ⟨H+1,0,none⟩=false):=by unfold Hid; simp[go_sem,hfk]
       have hl4:Hid (H+1<(w3.setCell ⟨H+1,0,none⟩ (.int .i64 ((k:Int)+1))).heap.size):=by unfold Hid; simp only[World.setCell,Array.size_modify]; exact hl3
       have hmo:Hid (intOf ((w3.cell? ⟨H+1,0,none⟩).getD undef)=(k:Int)):=by unfold Hid; rw[hxk]; rfl
       have hmn:Hid (intOf (((w3.setCell ⟨H+1,0,none⟩ (.int .i64 ((k:Int)+1))).cell? ⟨H+1,0,none⟩).getD undef)=(k:Int)+1):=by unfold Hid; rw[hnew.out]; rfl
       clear hy hz;go_wp2_with (fail);refine⟨⟨k+1,by omega,by omega,by push_cast; exact hnew.out,hf4.out,hx4.out,hE4.out,hB4.out,hl4.out,hzero2⟩,?_⟩;rw[hmo.out,hmn.out];omega
      ·have hpiv:=Lib.hid (pivF_eq hak hkn (fun t h1 h2=>hzero.out t h1 h2) (.inr hz));have hzb:(y==0)=false:=by rw[beq_eq_false_iff_ne,hy]; exact fun e=>hz (ci_eq_zero.1 e)
       have hkb:((k:Int)==(n:Int))=false:=by rw[beq_eq_false_iff_ne]; omega
       have ha0:(0:Int)≤(a:Int):=by omega
       have han1:(a:Int)<(n:Int):=by omega
       replace hy:=Lib.hid hy;replace hz:=Lib.hid hz;go_upto_if 58 with (fail)
       go_cut [10] from 21 to 122 (fun d wx=>∃ det':Int,d=.int .i64 det'∧EB wx L g n m s gf cl H (.slice Ap a cp) (natL S.2) (swapR S.1 a k)∧Below L w wx∧wx.cell? ⟨H,0,none⟩=some (.int .i64 (a:Int))∧H+1<wx.heap.size)
       case first =>
        by_cases hka:k=a
        ·have hkab:((k:Int) !=(a:Int))=false:=by rw[bne_eq_false_iff_eq]; omega
         have hsw:Hid (swapR S.1 a k=S.1):=by rw[hka]; exact swapR_self _ _
         clear hka;go_wp2_with (fail);go_meet;exact⟨det,rfl,by rw[hsw.out]; exact hE3,hB3,hxa,hl3⟩
        ·have hkab:((k:Int) !=(a:Int))=true:=by rw[bne_iff_ne]; omega
         have hC:=sSwap_any n m S.1 g cl (H+1) H k a L none w3 ((hE3.rows _ (.inl rfl)).any) hxk hxa (by omega) (by omega) han hkl hka;have hC2:=sEach2_any (.pointer (some ⟨H+1,0,none⟩)) (.pointer (some ⟨H,0,none⟩)) (fun w'=>EB w' L g n m s gf cl H (.slice Ap a cp) (natL S.2) (swapR S.1 a k)∧Below L w w'∧w'.cell? ⟨H,0,none⟩=some (.int .i64 (a:Int))∧H+1<w'.heap.size) (s+1) (s+1+1) (.slice (some ⟨g,0,none⟩) n cl) w3 h5 (hC.mono (by
          rintro e w' ⟨rfl,hgr,hup⟩;have hE4:=hE3.step hgr (fun X h1 _=>by omega) hE3.pg (fun q hq=>hup q (hE3.rows q hq));exact⟨rfl,hE4.b7,hE4,hB3.trans (grown_below hgr hLg hgl),hgr.cell hxa (fun e=>by injection e with e; have e2:H=g:=e; omega),Nat.lt_of_lt_of_le hl3 hgr.size⟩))
         replace hC2:=Lib.hid hC2;clear hC;go_wp2_with (fail);(with_reducible refine hC2.out.mono ?_);rintro e w4 ⟨rfl,hE4,hB4,hx4,hl4⟩;have hN:=Lib.hid (gNeg_any F det gf w4 ((hg.below hB4).more (by omega)));have h44:=hE4.b4;go_wp2_with (fail);(with_reducible refine hN.out.mono ?_);rintro e w5 ⟨rfl,hb5⟩;have hE5:=Lib.hid (hE4.below hb5 (Nat.le_refl _));have hB5:=Lib.hid (hB4.trans (hb5.mono (by omega)));have hx5:=(hb5.cell (p:=⟨H,0,none⟩) (show H<w4.heap.size by omega)).trans hx4;go_wp2_with (fail);go_meet;exact⟨_,rfl,hE5.out,hB5.out,hx5,Nat.lt_of_lt_of_le hl4 hb5.size⟩
       case rest =>
        obtain⟨det',rfl,hE6,hB6,hx6,hl6⟩:=hcut;obtain⟨w6,rfl⟩:∃ w6:World,w6=wc:=⟨_,rfl⟩;clear hxk hfk hxa hE3 hB3 hl3 h4 h5 h7 hgl hxr hyk hzero;obtain⟨M1,hM1⟩:∃ M1,M1=swapR S.1 a k:=⟨_,rfl⟩;rw[←hM1]at hE6;have hM1a:M1 a=S.1 k:=by rw[hM1]; exact if_pos rfl
        have hne0:M1 a j≠0:=by rw[hM1a]; exact hz.out
        obtain⟨b6,c6,hr6,-⟩:=(hE6.rows _ (.inl rfl)).at_ han;obtain⟨y6,hy6⟩:∃ y6,y6=ci (M1 a j):=⟨_,rfl⟩;have hcc:=Lib.hid (show w6.cell? ⟨s,0,none⟩=some (.pointer (some ⟨gf,0,none⟩))∧w6.cell? ⟨s+1,0,none⟩=some (.slice (some ⟨g,0,none⟩) n cl)∧w6.cell? ⟨H,0,none⟩=some (.int .i64 (a:Int))∧w6.cell? ⟨g,a,none⟩=some (.slice (some ⟨b6,0,none⟩) m c6)∧w6.cell? ⟨b6,j,none⟩=some (.int .i64 y6) from ⟨hE6.b4,hE6.b5,hx6,hr6.hd,by rw[hy6]; exact (hr6.cells j (by omega)).1⟩);have hgl6:=(hE6.rows _ (.inl rfl)).1;have hb6:=hr6.lt;have hLw6:L≤w6.heap.size:=by omega
        have hs6:s<w6.heap.size∧s+1<w6.heap.size∧H<w6.heap.size:=⟨by omega,by omega,by omega⟩;have hM6:=Lib.hid (gMul_any F det' y6 gf w6.drew ((hg.below hB6).more hLw6).drew);replace hM1:=Lib.hid hM1;replace hM1a:=Lib.hid hM1a;replace hne0:=Lib.hid hne0;replace hy6:=Lib.hid hy6;clear hr6 hx6;go_wp2_with (fail);refine wp_region_held_drew (S:=fun w'=>w'.cell? ⟨s,0,none⟩=some (.pointer (some ⟨gf,0,none⟩))∧w'.cell? ⟨s+1,0,none⟩=some (.slice (some ⟨g,0,none⟩) n cl)∧w'.cell? ⟨H,0,none⟩=some (.int .i64 (a:Int))∧w'.cell? ⟨g,a,none⟩=some (.slice (some ⟨b6,0,none⟩) m c6)∧w'.cell? ⟨b6,j,none⟩=some (.int .i64 y6)) (by kernel_rfl) (by (try dsimp only); exact hcc.out) (fun hHeld=>?_);refine tk 0 ?_; try simp only[pS]
        refine tk 1 ?_; try simp only[pS]
        refine tk 2 ?_; try simp only[pS]
        refine tk 3 ?_; try simp only[pS]
        refine tk 4 ?_; try simp only[pS]
        refine tk 5 ?_; try simp only[pS]
        refine tk 6 ?_; try simp only[pS]
        refine tk 7 ?_; try simp only[pS]
        refine tk 8 ?_; try simp only[pS]
        refine rd 9 fun K hK=>?_
        go_simp;go_at_call 90;(with_reducible refine (hM6).out.mono ?_);rintro e w7 ⟨rfl,hb7⟩;have hcc7:=Lib.hid (keep5g hb7 hs6.1 hs6.2.1 hs6.2.2 hgl6 hb6 hcc.out);go_wp2_with (fail);refine hK.out _ _ (by (try dsimp only); exact hcc7.out) (fun hHeld=>?_);clear hK K;try simp only[pS]
        refine tk 10 ?_; try simp only[pS]
        refine wpAnyH_done (by kernel_rfl) ?_ _;have hb67:=(Below.refl w6.heap.size w6).drew.trans hb7;have hE7:=hE6.below hb67 (Nat.le_refl _);have hB7:=hB6.trans (hb67.mono hLw6);have hs67:=hb67.size;clear hE6 hB6 hcc hb67 hb7 hM6;go_upto_region 16 with (fail)
        obtain⟨v6,hv6⟩:∃ v6,v6=ci (inv (M1 a j)):=⟨_,rfl⟩;have hIv:∀ W,Below w7.heap.size w7 W→Hid (Calls Tryz.prog 130 #[.pointer (some ⟨gf,0,none⟩),.int .i64 y6] W fun e w'=>e=.returned (.tuple #[.int .i64 v6,.int .i64 0])∧Below W.heap.size W w'):=fun W hW=>by
         have h:=gInv_ok F y6 gf W ((hg.below (hB7.trans (hW.mono (by omega)))).more (Nat.le_trans (by omega) hW.size)) (by rw[hy6.out,eli_ci]; exact hne0.out);rw[hy6.out,eli_ci,←hy6.out,←hv6]at h;exact h
        replace hv6:=Lib.hid hv6;have hd7a:Below w7.heap.size w7 w7.drew:=(Below.refl _ _).drew;have hd7b:Below w7.heap.size w7 (w7.alloc (.cells #[.int .i64 0] 3)).drew:=((Below.refl _ _).alloc (Nat.le_refl _) _).drew;have k1:s<w7.heap.size:=by omega
        have k2:s+1<w7.heap.size:=by omega
        have k3:H<w7.heap.size:=by omega
        have k4:g<w7.heap.size:=by omega
        have k5:b6<w7.heap.size:=by omega
        go_cut [16,17] from 21 to 122 (fun p t wx=>∃ X,p=.pointer (some ⟨X,0,none⟩)∧t=.int .i64 0∧wx.cell? ⟨X,0,none⟩=some (.int .i64 v6)∧Below w7.heap.size w7 wx∧w7.heap.size≤X∧X<wx.heap.size)
        case first =>
         refine wp_region_held_drew (S:=fun w'=>w'.cell? ⟨s,0,none⟩=some (.pointer (some ⟨gf,0,none⟩))∧w'.cell? ⟨s+1,0,none⟩=some (.slice (some ⟨g,0,none⟩) n cl)∧w'.cell? ⟨H,0,none⟩=some (.int .i64 (a:Int))∧w'.cell? ⟨g,a,none⟩=some (.slice (some ⟨b6,0,none⟩) m c6)∧w'.cell? ⟨b6,j,none⟩=some (.int .i64 y6)) (by kernel_rfl) (by (try dsimp only); exact hcc7.out) (fun hHeld=>?_);refine tk 0 ?_; try simp only[pS]
         refine tk 1 ?_; try simp only[pS]
         refine tk 2 ?_; try simp only[pS]
         refine tk 3 ?_; try simp only[pS]
         refine tk 4 ?_; try simp only[pS]
         refine tk 5 ?_; try simp only[pS]
         refine tk 6 ?_; try simp only[pS]
         refine tk 7 ?_; try simp only[pS]
         refine wpAnyH_ready (rs:=[8,12]) (by kernel_rfl) (by simp) ?_;refine AllReadyH.cons (o:=⟨_,_,_,_,_,_⟩) rfl (fun K hK=>?_) ?_
         ·go_simp;go_at_call 130;(with_reducible refine ((hIv _ (by first | exact hd7a | exact hd7b))).out.mono ?_);rintro e w8 ⟨rfl,hb8⟩;have hb78:Below w7.heap.size w7 w8:=(by first | exact hd7a.trans hb8 | exact hd7b.trans (hb8.mono (by simp)));have hcc8:=Lib.hid (keep5g hb78 k1 k2 k3 k4 k5 hcc7.out);try have hxA:=(after_alloc hb8).1
          try have hfA:=(after_alloc hb8).2
          go_wp2_with (fail);refine hK.out _ _ (by (try dsimp only); exact hcc8.out) (fun hHeld=>?_);clear hK K;try simp only[pS]
          refine tk 9 ?_; try simp only[pS]
          refine tk 10 ?_; try simp only[pS]
          refine tk 11 ?_; try simp only[pS]
          refine rd 12 fun K hK=>?_
          go_simp;refine hK.out _ _ (by (try dsimp only); first | exact keep5g hd7b k1 k2 k3 k4 k5 hcc7.out | exact keep5g (hb78.alloc hb78.size _) k1 k2 k3 k4 k5 hcc7.out) (fun hHeld=>?_);clear hK K;try simp only[pS]
          refine rd 13 fun K hK=>?_
          go_simp;refine hK.out _ _ (by (try dsimp only); first | exact keep5g (hb78.setCell (p:=⟨w7.heap.size,0,none⟩) (Nat.le_refl _) _) k1 k2 k3 k4 k5 hcc7.out | exact keep5g (hb78.alloc hb78.size _) k1 k2 k3 k4 k5 hcc7.out) (fun hHeld=>?_);clear hK K;try simp only[pS]
          refine tk 14 ?_; try simp only[pS]
          refine wpAnyH_done (by kernel_rfl) ?_ _;go_wp2_with (fail);go_meet
          first
           | exact⟨w8.heap.size,rfl,rfl,by simp[go_sem],hb78.alloc hb78.size _,hb78.size,by simp⟩
           | exact⟨w7.heap.size,rfl,rfl,World.cell?_setCell_same _ _ _ hxA,hb78.setCell (p:=⟨w7.heap.size,0,none⟩) (Nat.le_refl _) _,Nat.le_refl _,by simp only[World.setCell,Array.size_modify]; exact Nat.lt_of_lt_of_le (by simp) hb8.size⟩
         refine AllReadyH.cons (o:=⟨_,_,_,_,_,_⟩) rfl (fun K hK=>?_) AllReadyH.nil;go_simp;refine hK.out _ _ (by (try dsimp only); first | exact keep5g hd7b k1 k2 k3 k4 k5 hcc7.out | exact keep5g (hb78.alloc hb78.size _) k1 k2 k3 k4 k5 hcc7.out) (fun hHeld=>?_);clear hK K;try simp only[pS]
         refine rd 8 fun K hK=>?_
         go_simp;go_at_call 130;(with_reducible refine ((hIv _ (by first | exact hd7a | exact hd7b))).out.mono ?_);rintro e w8 ⟨rfl,hb8⟩;have hb78:Below w7.heap.size w7 w8:=(by first | exact hd7a.trans hb8 | exact hd7b.trans (hb8.mono (by simp)));have hcc8:=Lib.hid (keep5g hb78 k1 k2 k3 k4 k5 hcc7.out);try have hxA:=(after_alloc hb8).1
         try have hfA:=(after_alloc hb8).2
         go_wp2_with (fail);refine hK.out _ _ (by (try dsimp only); exact hcc8.out) (fun hHeld=>?_);clear hK K;try simp only[pS]
         refine tk 9 ?_; try simp only[pS]
         refine tk 10 ?_; try simp only[pS]
         refine tk 11 ?_; try simp only[pS]
         refine rd 13 fun K hK=>?_
         go_simp;refine hK.out _ _ (by (try dsimp only); first | exact keep5g (hb78.setCell (p:=⟨w7.heap.size,0,none⟩) (Nat.le_refl _) _) k1 k2 k3 k4 k5 hcc7.out | exact keep5g (hb78.alloc hb78.size _) k1 k2 k3 k4 k5 hcc7.out) (fun hHeld=>?_);clear hK K;try simp only[pS]
         refine tk 14 ?_; try simp only[pS]
         refine wpAnyH_done (by kernel_rfl) ?_ _;go_wp2_with (fail);go_meet
         first
          | exact⟨w8.heap.size,rfl,rfl,by simp[go_sem],hb78.alloc hb78.size _,hb78.size,by simp⟩
          | exact⟨w7.heap.size,rfl,rfl,World.cell?_setCell_same _ _ _ hxA,hb78.setCell (p:=⟨w7.heap.size,0,none⟩) (Nat.le_refl _) _,Nat.le_refl _,by simp only[World.setCell,Array.size_modify]; exact Nat.lt_of_lt_of_le (by simp) hb8.size⟩
        case rest =>
         obtain⟨X8,rfl,rfl,hx8,hb8,hX8,hX8'⟩:=hcut;obtain⟨w8,rfl⟩:∃ w8:World,w8=wc:=⟨_,rfl⟩;have hcc8:=keep5g hb8 k1 k2 k3 k4 k5 hcc7.out;have hE8:=hE7.below hb8 (Nat.le_refl _);have hB8:=hB7.trans (hb8.mono (by omega));have hs78:=hb8.size;obtain⟨c84,c85,c8a,-,-⟩:=hcc8;clear hcc7 hE7 hB7 hIv hd7a hd7b hb8;have hgl8:=(hE8.rows _ (.inl rfl)).1;go_upto_if 92 with (fail)
         go_cut [] from 21 to 122 (fun wx=>EB wx L g n m s gf cl H (.slice Ap a cp) (natL S.2) (scaleR M1 a (inv (M1 a j)))∧Below L w wx∧wx.cell? ⟨H,0,none⟩=some (.int .i64 (a:Int))∧H+1<wx.heap.size)
         case first =>
          by_cases h1:inv (M1 a j)=1
          ·obtain rfl:v6=1:=by rw[hv6.out,h1,ci_one]
           have hsc:Hid (scaleR M1 a (inv (M1 a j))=M1):=by rw[h1]; exact scaleR_one _ _
           clear h1 hv6;go_wp2_with (fail);go_meet;exact⟨by rw[hsc.out]; exact hE8,hB8,c8a,by omega⟩
          ·have hyn:¬ v6=1:=by rw[hv6.out]; exact fun e=>h1 (ci_eq_one.1 e)
           have hyb:(v6 !=1)=true:=by rw[bne_iff_ne]; exact hyn
           have hC:=sScale_any F n m M1 g cl s X8 H gf a L v6 none w8 ((hg.below hB8).more (by omega)) ((hE8.rows _ (.inl rfl)).any) c84 hx8 c8a (by omega) hX8' (by omega) (by omega) (by omega) (by omega) han hmm (by omega);have hC2:=sEach3_any (.pointer (some ⟨s,0,none⟩)) (.pointer (some ⟨X8,0,none⟩)) (.pointer (some ⟨H,0,none⟩)) (fun w'=>EB w' L g n m s gf cl H (.slice Ap a cp) (natL S.2) (scaleR M1 a (inv (M1 a j)))∧Below L w w'∧w'.cell? ⟨H,0,none⟩=some (.int .i64 (a:Int))∧H+1<w'.heap.size) (s+1) (s+1+1) (.slice (some ⟨g,0,none⟩) n cl) w8 c85 (hC.mono (by
            rintro e w' ⟨rfl,hgr,hup⟩;rw[hv6.out,eli_ci]at hup;have hE9:=hE8.step hgr (fun X h1 _=>by omega) hE8.pg (fun q hq=>hup q (by
             intro t ht;rcases hq with e | ⟨X,e,e2⟩
             ·exact (hE8.own.lt t (e ▸ ht)).2
             ·rw[ht]at e; injection e with e; omega) (hE8.rows q hq))
            exact⟨rfl,hE9.b7,hE9,hB8.trans (grown_below hgr hLg hgl8),hgr.cell c8a (fun e=>by injection e with e; have e2:H=g:=e; omega),Nat.lt_of_lt_of_le (by omega) hgr.size⟩))
           replace hC2:=Lib.hid hC2;clear hC h1 hv6;go_wp2_with (fail);(with_reducible refine hC2.out.mono ?_);rintro e w9 ⟨rfl,hE9,hB9,hx9,hl9⟩;go_wp2_with (fail);go_meet;exact⟨hE9,hB9,hx9,hl9⟩
         case rest =>
          obtain⟨hE9,hB9,hx9,hl9⟩:=hcut;have hEl:Hid (elS n M (j+1)=(clearR (scaleR M1 a (inv (M1 a j))) a j n,S.2 ++ [j])):=by
           have h:=elS_yes (A:=M) (n:=n) (c:=j) (k:=k) (by rw[←hS.out,←ha.out]; exact hpiv.out) hkl;rw[←hS.out,←ha.out]at h;unfold Hid;rw[h];unfold stepR;rw[←hM1.out,hM1a.out]
          obtain⟨M2,hM2⟩:∃ M2,M2=scaleR M1 a (inv (M1 a j)):=⟨_,rfl⟩;rw[←hM2]at hE9 hEl;replace hM2:=Lib.hid hM2;have hE9':EB wc L g n m s gf cl H (.slice Ap a cp) (natL S.2) (clearR M2 a j 0):=by rw[clearR_zero]; exact hE9
          have h59:=hE9.b5;clear hE8 hB8 c84 c85 c8a hx8 hgl8 hE9;go_wp2_with (fail);go_loopw [98,18,19] (fun iS _ _ wr=>∃ i:Nat,i≤n∧iS=.int .i64 i∧EB wr L g n m s gf cl H (.slice Ap a cp) (natL S.2) (clearR M2 a j i)∧Below L w wr∧wr.cell? ⟨H,0,none⟩=some (.int .i64 (a:Int))∧H+1<wr.heap.size) (fun iS _ _ _=>n - (intOf iS).toNat)
          case atStart=>exact⟨0,by omega,rfl,hE9',hB9,hx9,hl9⟩
          case round =>
           clear hE9' hB9 hx9 hl9 h59;obtain⟨wi,rfl⟩:∃ wi:World,wi=wr:=⟨_,rfl⟩;obtain⟨i,hi,rfl,hEi,hBi,hxi,hli⟩:=hrel;have h4i:=hEi.b4;have h5i:=hEi.b5;have h7i:=hEi.b7;have hgli:=(hEi.rows _ (.inl rfl)).1;have k1i:s<wi.heap.size:=by omega
           have k2i:s+1<wi.heap.size:=by omega
           have k3i:H<wi.heap.size:=by omega
           by_cases hin:i<n
           ·have hi0:(0:Int)≤(i:Int):=by omega
            have hi1:(i:Int)<(n:Int):=by omega
            obtain⟨ri,ci8,hri,-⟩:=(hEi.rows _ (.inl rfl)).at_ hin;have hxr:=hri.hd;have hyr:=(hri.cells j (by omega)).1;rw[clearR_at]at hyr;have hrl:=hri.lt;obtain⟨yi,hyi⟩:∃ y,y=ci (M2 i j):=⟨_,rfl⟩;rw[←hyi]at hyr;obtain⟨wn,hwn⟩:∃ wn,wn=(wi.alloc (.cells #[.int .i64 (i:Int)] 3)).alloc (.cells #[.int .i64 yi] 3):=⟨_,rfl⟩;have hbn:Below wi.heap.size wi wn:=by rw[hwn]; exact ((Below.refl _ _).alloc (Nat.le_refl _) _).alloc (by simp) _
            have hEn:=hEi.below hbn (Nat.le_refl _);have hBn:=hBi.trans (hbn.mono (by omega));have hxn:=(hbn.cell (p:=⟨H,0,none⟩) k3i).trans hxi;have hln:H+1<wn.heap.size:=Nat.lt_of_lt_of_le hli hbn.size;clear hri;by_cases hia:i=a
            ·have hib:((i:Int) !=(a:Int))=false:=by rw[bne_eq_false_iff_eq]; omega
             have hEm:EB wn L g n m s gf cl H (.slice Ap a cp) (natL S.2) (clearR M2 a j (i+1)):=by rw[clearR_skip (.inl hia)]; exact hEn
             rw[hwn]at hEm hBn hxn hln;replace hEm:=Lib.hid hEm;replace hBn:=Lib.hid hBn;replace hxn:=Lib.hid hxn;replace hln:=Lib.hid hln;replace hyi:=Lib.hid hyi;clear hia hEn hbn hwn;go_wp2_with (fail);go_roundw
             case rel=>exact⟨i+1,by omega,by go_num,hEm.out,hBn.out,hxn.out,hln.out⟩
             case measure=>simp[intOf]; omega
            ·have hib:((i:Int) !=(a:Int))=true:=by rw[bne_iff_ne]; omega
             by_cases hz2:M2 i j=0
             ·have hzb2:(yi !=0)=false:=by rw[bne_eq_false_iff_eq,hyi,hz2,ci_zero]
              have hEm:EB wn L g n m s gf cl H (.slice Ap a cp) (natL S.2) (clearR M2 a j (i+1)):=by rw[clearR_skip (.inr hz2)]; exact hEn
              rw[hwn]at hEm hBn hxn hln;replace hEm:=Lib.hid hEm;replace hBn:=Lib.hid hBn;replace hxn:=Lib.hid hxn;replace hln:=Lib.hid hln;replace hyi:=Lib.hid hyi;clear hia hz2 hEn hbn hwn;go_wp2_with (fail);go_roundw
              case rel=>exact⟨i+1,by omega,by go_num,hEm.out,hBn.out,hxn.out,hln.out⟩
              case measure=>simp[intOf]; omega
             ·have hzb2:(yi !=0)=true:=by rw[bne_iff_ne,hyi]; exact fun e=>hz2 (ci_eq_zero.1 e)
              have hxb:wn.cell? ⟨wi.heap.size,0,none⟩=some (.int .i64 (i:Int))∧wn.cell? ⟨wi.heap.size+1,0,none⟩=some (.int .i64 yi):=by rw[hwn]; exact⟨by simp[go_sem],by simp[go_sem]⟩
              have hC:=sAdd_any F n m (clearR M2 a j i) g cl s wi.heap.size (wi.heap.size+1) H gf i a L yi wn (hg.below hBn) (fun X hX=>by
               rcases hX with rfl | rfl | rfl | rfl
               ·exact hEn.rows _ (.inr ⟨X,rfl,.inl (by omega)⟩)
               ·exact (hEi.rows _ (.inl rfl)).fresh hbn (Nat.le_refl _) (Nat.le_refl _)
               ·exact (hEi.rows _ (.inl rfl)).fresh hbn (Nat.le_refl _) (Nat.le_succ _)
               ·exact hEn.rows _ (.inr ⟨X,rfl,.inr (.inl rfl)⟩)) hEn.b4 hxb.1 hxb.2 hxn han hin hia hmm (by have:=hbn.size; omega)
              rw[clearR_at,clearR_self,hyi,eli_ci,clearR_set hia]at hC;have hC2:=sEach4_any (.pointer (some ⟨s,0,none⟩)) (.pointer (some ⟨wi.heap.size,0,none⟩)) (.pointer (some ⟨wi.heap.size+1,0,none⟩)) (.pointer (some ⟨H,0,none⟩)) (fun w'=>EB w' L g n m s gf cl H (.slice Ap a cp) (natL S.2) (clearR M2 a j (i+1))∧Below L w w'∧w'.cell? ⟨H,0,none⟩=some (.int .i64 (a:Int))∧H+1<w'.heap.size) (s+1) (s+1+1) (.slice (some ⟨g,0,none⟩) n cl) wn hEn.b5 (hC.mono (by
               rintro e w' ⟨rfl,b,hbg,hLb,hbl,hgr,hup⟩;have hEm:=hEn.step hgr (fun X h1 h2 e=>(hup (some X) (hEn.rows _ (.inr ⟨X,rfl,.inl ⟨h1,h2⟩⟩))).1 (by rw[e])) (hup _ (hEn.rows _ (.inl rfl))).1 (fun q hq=>(hup q (hEn.rows q hq)).2);exact⟨rfl,hEm.b7,hEm,hBn.trans (grown_below hgr hLb hbl),hgr.cell hxn (fun e=>(hup (some H) (hEn.rows _ (.inr ⟨H,rfl,.inr (.inl rfl)⟩))).1 e),Nat.lt_of_lt_of_le hln hgr.size⟩))
              rw[hwn]at hC2;replace hC2:=Lib.hid hC2;replace hyi:=Lib.hid hyi;clear hC hia hz2 hEn hbn hwn hxb hBn hxn hln;go_wp2_with (fail);(with_reducible refine hC2.out.mono ?_);rintro e w10 ⟨rfl,hEm,hBm,hxm,hlm⟩;go_wp2_with (fail);go_roundw
              case rel=>exact⟨i+1,by omega,by go_num,hEm,hBm,hxm,hlm⟩
              case measure=>simp[intOf]; omega
           ·obtain rfl:i=n:=by omega
            have hle:(natL S.2).length≤1000000:=by rw[hnl.out]; omega
            have hgs3:s+1+1+1≤wi.heap.size:=by omega
            go_wp2_with (at_builtin; refine wpList_app1 rfl (.tmp 119) (.tmp 121) rfl (s+1+1+1) _ (natL S.2) _ hEi.own rfl rfl rfl hle hgs3 ?_; intro v9 w9 ho9 hb9 hg9 hv9);have hEl1:(elS i M (j+1)).1=clearR M2 a j i:=by rw[hEl.out]
            have hEl2:(elS i M (j+1)).2=S.2 ++ [j]:=by rw[hEl.out]
            have hnl9:natL (S.2 ++ [j])=natL S.2 ++ [(j:Int)]:=by unfold natL; rw[List.map_append]; rfl
            have hE9:=hEi.list hb9 ho9 hg9 hv9;have hLs:L≤s+1+1+1:=by rw[hs.out]; omega
            go_roundw
            case rel=>exact⟨j+1,_,by omega,by go_num,rfl,by rw[hEl1,hEl2,hnl9]; exact hE9,hBi.trans (hb9.mono hLs)⟩
            case measure=>simp[intOf]; omega
     ·obtain rfl:k=n:=by omega
      have hpiv:=Lib.hid (pivF_eq hak hkn (fun t h1 h2=>hzero.out t h1 h2) (.inl rfl));have hEl:Hid (elS k M (j+1)=S):=by
       unfold Hid;rw[elS_no (A:=M) (n:=k) (c:=j) (by rw[←hS.out,←ha.out]; exact hpiv.out),←hS.out]
      go_wp2_with (fail);go_roundw
      case rel=>exact⟨j+1,det,by omega,by go_num,rfl,by rw[hEl.out]; exact hE3.base,hB3⟩
      case measure=>simp[intOf]; omega
   ·have hEl:Hid (elS n M cols=S):=by
     unfold Hid;obtain⟨d,rfl⟩:∃ d,cols=j+d:=⟨cols - j,by omega⟩;rw[elS_stop (by rw[←hS.out,←ha.out]; omega) d,←hS.out]
    go_wp2_with (fail);go_ret2;exact⟨.slice Ap a cp,det,rfl,by rw[←hs.out,hEl.out]; exact (hE.own.lowerM (by omega)),by rw[hEl.out]; exact hE.rows _ (.inl rfl),hbw⟩
  ·obtain rfl:j=cols:=by omega
   go_wp2_with (fail);go_ret2;exact⟨.slice Ap a cp,det,rfl,by rw[←hs.out,←hS.out]; exact (hE.own.lowerM (by omega)),by rw[←hS.out]; exact hE.rows _ (.inl rfl),hbw⟩
end Go.Proofs.YtogfekjbpcfgmaaGreat
