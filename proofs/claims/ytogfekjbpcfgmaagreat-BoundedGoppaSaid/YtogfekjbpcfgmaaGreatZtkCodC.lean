/- The program's rows: Scale, entries, check, Clone, clone. -/
import Derived.Maps.Range
import Derived.Maps.RangeWalk
import Derived.Test.YtogfekjbpcfgmaaGreatZtkHasC
import Derived.Test.YtogfekjbpcfgmaaGreatZtkGrsU
set_option maxRecDepth 100000
set_option maxHeartbeats 16000000
set_option linter.unusedVariables false
namespace Go.Proofs
open Go.RowKit Cw
section
end
section
end
section
theorem QpP (b j:Nat):(⟨b,0,none⟩:Addr).add j=⟨b,j,none⟩:=by unfold Addr.add;split <;> simp_all
theorem Own.rowCells {D:Desc} {w:World} {B b c m:Nat} {f:Nat→R D} (h:Own w B (.slice (some ⟨b,0,none⟩) m c) (QaK D m f)):B≤b∧b<w.heap.size∧m≤c∧c≤maxLen∧∀j,j<m→w.cell? ⟨b,j,none⟩=some (.int .i64 (ci (f j)))∧w.frozen? ⟨b,j,none⟩=false:=by
 have O:=h;rcases h.2 with ⟨e,-⟩ |⟨g,cap,Y,T,U,I,J,V,_⟩
 ·cases e
 ·obtain⟨rfl,rfl⟩:b=g∧c=cap:=by
   injection T with e1 e2 e3
   injection e1 with e1
   injection e1 with e1
   exact⟨e1,e3⟩
  rw[Qae]at J;refine⟨U,(Array.getElem?_eq_some_iff.1 I).1,J,V,fun j X=>⟨?_,by simp[World.frozen?,I]⟩⟩;have:=World.ownsRow.cells O (g:=b) rfl j (.int .i64 (ci (f j))) (by rw[List.getElem?_map];unfold QaK lst;simp[X]);rw[QpP]at this;exact this
theorem Own.zero {w:World} {B n c:Nat} {A:Option Addr} {l:List Int} (h:Own w B (.slice A n c) l)(J:0<l.length):∃b,A=some ⟨b,0,none⟩:=by
 rcases h.2 with ⟨-,h0⟩ |⟨g,cap,O,I,-⟩
 ·omega
 ·cases I;exact⟨g,rfl⟩
theorem MP.snoc {D:Desc} {w3 w4:World} {L g k m I c1:Nat} {M:Nat→Nat→R D} {v:Value} (h:MP w3 L g k m none M)(U:Below w3.heap.size w3 w4)(hx:w4.cell? ⟨g,k,none⟩=some v)(hf:w4.frozen? ⟨g,k,none⟩=false)
  (ho:Own w4 w3.heap.size (.slice (some ⟨I,0,none⟩) m c1) (QaK D m (M k))) (hL:L≤w3.heap.size):MP (w4.setCell ⟨g,k,none⟩ (.slice (some ⟨I,0,none⟩) m c1)) L g (k+1) m none M:=by
 obtain⟨o1,o2,o3,o4,Y⟩:=ho.rowCells;have al:=h.1;have am:∀t b c,t<k→QbR w3 L g m none t b c (M t)→b<w3.heap.size:=fun t b c _ h=>h.lt
 obtain⟨aa,B,C,ab,h4⟩:=h;have V:I≠g:=by omega
 refine⟨by simp only[World.setCell,Array.size_modify];exact θ aa U.size,fun t=>if t=k then I else B t,fun t=>if t=k then c1 else C t,fun t J=>?_,fun s t hs J=>?_⟩
 ·by_cases e:t=k
  ·subst e;simp only[if_true];exact⟨World.cell?_setCell_same _ _ _ hx,by simp[go_sem,hf],by simp only[World.setCell,Array.size_modify];exact o2,V,by simp,by omega,o3,o4,fun j hj=>⟨(World.cell?_setCell_far _ _ _ _ V.symm).trans (Y j hj).1,by have:=(Y j hj).2;simp[go_sem,this]⟩⟩
  ·simp only[if_neg e];exact ((ab t (by omega)).grown aa (Qbr U ρ) (by simp) (by simp) (by simp)).other e
 ·intro e;have X:=fun t (J:t<k)=>(ab t J).lt
  by_cases O:s=k <;> by_cases T:t=k
  ·omega
  ·simp only[O,T,if_true,if_false]at e;have:=X t (by omega);omega
  ·simp only[O,T,if_true,if_false]at e;have:=X s (by omega);omega
  ·simp only[O,T,if_false]at e;exact h4 s t (by omega) (by omega) e
end
section
open Cw.CField (inv)
structure EB {D:Desc} (w:World) (L g n m s gf cl H:Nat) (pv:Value) (l:List Int) (M:Nat→Nat→R D):Prop where
 rows:∀q,(q=pv.ownBlock∨∃X,q=some X∧(s≤X∧X<s+1+1+1∨(X=H∨X=H+1)))→MP w L g n m q M
 b4:w.cell? ⟨s,0,none⟩=some (.pointer (some ⟨gf,0,none⟩))
 b5:w.cell? ⟨s+1,0,none⟩=some (.slice (some ⟨g,0,none⟩) n cl)
 b7:w.cell? ⟨s+1+1,0,none⟩=some (.slice none 0 0)
 own:Own w (s+1+1+1) pv l
 lt:s+1+1<w.heap.size
 gs:g<s
section
variable {D:Desc} {w w':World} {L g n m s gf cl H:Nat} {pv:Value} {l:List Int} {M M':Nat→Nat→R D}
theorem EB.below {B:Nat} (h:EB w L g n m s gf cl H pv l M)(I:Below B w w')(J:w.heap.size≤B):EB w' L g n m s gf cl H pv l M:=by
 have O:=h.lt;exact⟨fun q T=>(h.rows q T).below I J,(I.cell (p:=⟨s,0,none⟩) (show s<B by omega)).trans h.b4,(I.cell (p:=⟨s+1,0,none⟩) (show s+1<B by omega)).trans h.b5,(I.cell (p:=⟨s+1+1,0,none⟩) (show s+1+1<B by omega)).trans h.b7,h.own.below I J,θ O I.size,h.gs⟩
theorem MP.any {q:Option Nat} (h:MP w L g n m q M):MP w L g n m none M:=by
 obtain⟨I,b,c,J,O⟩:=h;exact⟨I,b,c,fun i T=>(J i T).to (by simp),O⟩
theorem EB.step {b:Nat} (h:EB w L g n m s gf cl H pv l M)(I:w.grownBy w' (some b))(J:∀X,s≤X→X<s+1+1+1→X≠b)(hp:pv.ownBlock≠some b)
  (O:∀q,(q=pv.ownBlock∨∃X,q=some X∧(s≤X∧X<s+1+1+1∨(X=H∨X=H+1)))→MP w' L g n m q M'):EB w' L g n m s gf cl H pv l M' :=
 ⟨O,I.cell h.b4 (fun e=>J s (by omega) (by omega) (by injection e)),I.cell h.b5 (fun e=>J (s+1) (by omega) (by omega) (by injection e)),I.cell h.b7 (fun e=>J (s+1+1) (by omega) (by omega) (by injection e)),h.own.kept I (.inr hp),θ h.lt I.size,h.gs⟩
theorem MP.other {q:Option Nat} {X:Nat} (U:MP w L g n m (some X) M)(V:MP w L g n m q M)(O:w.grownBy w' (some X))(Y:X≠g):MP w' L g n m q M:=by
 obtain⟨T,b,c,J,h4⟩:=V;exact⟨θ T O.size,b,c,fun i I=>(J i I).grown T O (fun e=>Y (by injection e)) (U.row I (J i I)).nq (J i I).nq,h4⟩
theorem EB.base (h:EB w L g n m s gf cl H pv l M):EB w L g n m s gf cl s pv l M :=
 ⟨fun q I=>h.rows q (I.imp id fun⟨X,e,J⟩=>⟨X,e,.inl (by omega)⟩),h.b4,h.b5,h.b7,h.own,h.lt,h.gs⟩
end
end
section
theorem MP.less {D:Desc} {w:World} {L g n m r:Nat} {q:Option Nat} {M:Nat→Nat→R D} (h:MP w L g n m q M)(U:r≤n):MP w L g r m q M:=by
 obtain⟨I,b,c,J,O⟩:=h;exact⟨I,b,c,fun i T=>J i (by omega),fun i k T V=>O i k (by omega) (by omega)⟩
theorem QpQ (I F1:FD)(h:F1.z=I.z)(M:Nat→Nat→R I.z):∃M1:Nat→Nat→R F1.z,(∀m,Qaw F1.z m M1=Qaw I.z m M) ∧
  ∀n c m,Qaw F1.z m (elS n M1 c).1=Qaw I.z m (elS n M c).1∧(elS n M1 c).2=(elS n M c).2:=by
 obtain⟨J,O,T,U,c0⟩:=I;obtain⟨V,X,Y,b1,c1⟩:=F1;dsimp only at h;subst h;exact⟨M,fun _=>rfl,fun _ _ _=>⟨rfl,rfl⟩⟩
end
section
theorem QnT {w:World} {ops:Array Oper} {o:Oper} {a:Act} {K:Act→World→Prop} {Q:Exit→Act→World→Prop} {E:Prop} (X:o.guard=none)(s x:Operand)
  (Y:o.op=.call { callee:=.builtin .append,args:=#[s,x],argTypes:=#[25,25] })
  (B:Nat) (v:Value) (l:List Value) (y:Value) (hy:y.oneCell'=true) (V:QsX w B v l) (hs:a.eval s=v) {H:Nat} (hx:a.eval x=.slice (some ⟨H,0,none⟩) 1 1) (hH:w.heap.size=H)
  (hl:l.length≤1000000) (hB:B≤w.heap.size)
  (h:∀J w',QsX w' B J (l ++ [y])→Below B w w'→w.grownBy w' v.ownBlock→(J.ownBlock=v.ownBlock∨(∀k,J.ownBlock=some k→w.heap.size≤k))→K (a.put o.dst J) w') :
  if Region.wanted o (yielded ops a.tmps)=true then Oper.wp Tryz.prog o a (w.alloc (.cells #[y] 22)) K Q else E:=by
 have hw:Region.wanted o (yielded ops a.tmps)=true:=by simp[Region.wanted,X]
 rw[if_pos hw];subst hH;obtain⟨i0,hi,ah,ai,aj⟩:=info_parts Qjd;obtain⟨J,w',ak,h2,O,_,T⟩:=run_append_own_at (P:=Tryz.prog) (w.alloc (.cells #[y] 22)) B 25 o.type 22 i0 (.slice none 0 0) 1 24 Tryz.underlying25 hi ah ai aj rfl (by decide) v l.length l (World.ownsRow.alloc V _)
  ⟨w.heap.size,0,none⟩ 1 1 [y] rfl (cell_one_new _ _ _) (by simp[hy]) (by simp only[maxLen];omega) (by omega) (by simp;omega)
 unfold Oper.wp execOp;simp only[Y,resolve,invoke,builtin,Sem.run_bind,Sem.run_pure,Result.andThen_ok,List.map_toArray,List.map_cons,List.map_nil,hs,hx,ak];have I:w.grownBy w' v.ownBlock:=⟨O.os,O.tape,O.output,τ (by simp) O.size,fun k U am=>(O.block k (by simp;omega) am).trans (Below.heap_alloc _ _ _ U)⟩;refine h J w' (by unfold QsX;rw[List.length_append];exact h2) ⟨I.os,I.tape,I.output,I.size,fun k U=>I.block k (by omega) (fun e=>by have:=(World.ownsRow.lt V k e.symm).1;omega)⟩ I ?_;rcases T with T |T
 ·exact .inl T
 ·right;intro k U;rw[T]at U;cases U;simp
end
section
def gM (D:Desc)(pts mul:List Int):Nat→Nat→R D:=fun i j=>eli D (mul[j]?.getD 0)*pw (eli D (pts[j]?.getD 0)) i
theorem Qc4.kept {w w':World} {B n b:Nat} {v:Value} {rows:Nat→List Int} (h:Qc4 w B v n rows)(I:w.grownBy w' (some b))(hb:b<B):Qc4 w' B v n rows:=by
 obtain⟨X,Y,O,h3⟩:=h;refine⟨X,Y,World.ownsRow.kept O I (.inr fun e=>by have:=(World.ownsRow.lt O _ e).1;omega),fun i hi=>?_⟩;obtain⟨Ai,ac,a1,a2,a3,a4,T⟩:=h3 i hi;refine⟨Ai,ac,a1,fun U=>?_,a3,a4,T⟩;obtain⟨J,ah,e,ai,aj⟩:=a2 U;have V:=(T (List.length_pos_iff.1 U) _ e).2;exact⟨J,ah,e,θ ai I.size,fun j hj=>I.cell (aj j hj) fun e2=>by
  have h6:J=b:=by injection e2
  have h7:B≤J:=V;omega⟩
end
section
theorem QrX {F:FD} {K:Int} {pts mul:List Int} (hz:gchkD F.z K pts mul=0):Qe9 K.toNat pts.length (gM F.z pts mul):=fun c hc=>by
 obtain⟨-,-,ai,hp,hm,ht,h0,aj,ak⟩:=Qbn hz;have U:=Qex ((List.range pts.length).map fun i=>eli F.z (pts[i]?.getD 0)) ((List.range K.toNat).map c) (by simp;omega) ?_ ?_
 ·intro i hi;exact U (c i) (List.mem_map.2 ⟨i,List.mem_range.2 hi,rfl⟩)
 ·refine List.pairwise_map.2 (List.Pairwise.imp_of_mem ?_ (List.nodup_range (n:=pts.length)));intro x y I hy ag e;have J:x<pts.length:=List.mem_range.1 I;have O:y<pts.length:=List.mem_range.1 hy;exact ag (QhD ht J O (QlD (QaJ.1 hp x J) (QaJ.1 hp y O) e))
 ·intro x I;obtain⟨j,hj,rfl⟩:=List.mem_map.1 I;have V:j<pts.length:=List.mem_range.1 hj;have X:=QaJ.1 hm j (by omega);have Y:mul[j]?.getD 0≠0:=fun e=>h0 (e ▸ Qcm (by omega))
  have T:=hc j V;rw[Qf4];have h4:Qat K.toNat (fun i=>c i*gM F.z pts mul i j)=eli F.z (mul[j]?.getD 0)*Qat K.toNat (fun i=>c i*pw (eli F.z (pts[j]?.getD 0)) i):=by
   rw[←Qal];exact Qaa fun i _=>by unfold gM;exact QgZ _ _ _
  rw[h4]at T;exact (Qbx T).resolve_left (QhC X Y)
theorem QpR {F:FD} {K:Int} {pts mul:List Int} (hz:gchkD F.z K pts mul=0):rkS F K.toNat pts.length (gM F.z pts mul)=K.toNat:=QgQ (QrX hz)
end
end Go.Proofs
namespace Cw
section
variable {F:Type} [CField F]
open CField (inv)
theorem Qb2.more {n n' m:Nat} {A:Nat→Nat→F} {v:Nat→F} (h:Qb2 n m A v)(I:n≤n'):Qb2 n' m A v:=h.trans fun _ J=>Qb2.row A (θ J I)
end
end Cw
namespace Go.Proofs
open Go.RowKit Cw
section
end
section
theorem QhF {D:Desc} (h:Qcq D.p D.m (Qan D)):∃F:FD,F.z=D:=by
 obtain⟨u,I⟩:=QcF h;exact⟨Qvk D u I,rfl⟩
theorem QmC {D:Desc} {m:Nat} {f g:Nat→R D} (h:QaK D m f=QaK D m g){j:Nat} (I:j<m):f j=g j:=by
 have J:=Qa0 D f I;rw[h,Qa0 D g I]at J;rw[←Qam (f j),←Qam (g j),J]
theorem QrY {F F1:FD} (h:F1.z=F.z){n m:Nat} {M:Nat→Nat→R F.z} {M1:Nat→Nat→R F1.z} (U:∀i,i<n→Qaw F1.z m M1 i=Qaw F.z m M i)(Y:QqL F1 n m M1):QqL F n m M:=by
 obtain⟨M2,ac,X⟩:=QpQ F F1 h M;have V:∀i,i<n→∀j,j<m→M1 i j=M2 i j:=fun i J j I=>QmC (D:=F1.z) (by
  have:=U i J;rw[←ac m]at this;exact this) I
 have aa:Qbd n n m M1 M2:=⟨fun t O=>(Qb2.row M2 O).congr fun j I=>V t O j I,fun t O=>(Qb2.row M1 O).congr fun j I=>(V t O j I).symm⟩;obtain⟨u1,u2⟩:=Qmi aa;obtain⟨T,ad⟩:=Y;unfold rkS at T;have ab:(elS n M m).2.length=n:=by rw[←(X n m m).2,←u1,T]
 refine⟨ab,fun i J=>?_⟩;rw[←(X n m m).1,←U i J,←ad i J];unfold Qaw QaK;exact Qay fun j I=>congrArg ci ((u2 i (by rw[T];exact J)).2 j I).symm
open Classical in
section
variable {P M N:Int} {ml:List Int} {n:Nat} {rows:Nat→List Int}
structure VC (P M N:Int) (ml:List Int) (n:Nat) (rows:Nat→List Int) (F:FD) (m:Nat) (A:Nat→Nat→R F.z):Prop where
 hP:P=F.p
 hM:M=F.m
 hl:ml=Qan F.z
 good:Qcq F.p F.m (Qan F.z)
 hN:N=m
 m1:1≤m
 m64:m≤64
 hr:∀i,i<n→rows i=Qaw F.z m A i
 can:QqL F n m A
theorem VC.le {F:FD} {m:Nat} {A:Nat→Nat→R F.z} (h:VC P M N ml n rows F m A):n≤m:=by
 have J:=(Qgu n A m).2;have I:=h.can.1;unfold rkS at I;omega
theorem VC.to {F F1:FD} {m:Nat} {A:Nat→Nat→R F.z} (h:VC P M N ml n rows F m A)(I:F.z=F1.z):∃J:Nat→Nat→R F1.z,VC P M N ml n rows F1 m J:=by
 obtain⟨J,O,-⟩:=QpQ F F1 I.symm A;have T:∀i,i<n→rows i=Qaw F1.z m J i:=fun i U=>by rw[O];exact h.hr i U
 exact⟨J,by rw[h.hP,I],by rw[h.hM,I],by rw[h.hl,I],by rw[←I];exact h.good,h.hN,h.m1,h.m64,T,QrY I (fun i _=>by rw[O]) h.can⟩
end
end
section
theorem Quh (D:Desc)(A:Option Addr)(c:Nat)(w:World)(J:Rd w w.heap.size A (Qan D))(O:Qcq D.p D.m (Qan D)) :
  Calls Tryz.prog 88 #[.agg #[.int .i64 D.p,.int .i64 D.m,.slice A D.mod.length c],.int .i64 D.q] w fun e w'=>∃a n I,e=.returned (.slice (some a) n I)∧Below w.heap.size w w':=by
 refine (QcY D A c w J).mono ?_;rintro e w' ⟨v,rfl,V,⟨u,-,X⟩ |⟨Y,-⟩⟩
 ·obtain⟨Av,I,rfl,-,T,-⟩:=X.form;obtain⟨b,o,rfl,-⟩:=T (by have:=D.q2;rw[show (pwl u (D.q - 1)).length=D.q - 1 from Qab _ _];omega);exact⟨_,_,_,rfl,V⟩
 ·obtain⟨u,U⟩:=QcF O;exact absurd U (Y u)
theorem Qv1 (D:Desc)(A:Option Addr)(c:Nat)(w:World)(I:Rd w w.heap.size A (Qan D))(J:¬ Qcq D.p D.m (Qan D)) :
  Calls Tryz.prog 88 #[.agg #[.int .i64 D.p,.int .i64 D.m,.slice A D.mod.length c],.int .i64 D.q] w fun e w'=>e=.returned (.slice none 0 0)∧Below w.heap.size w w':=by
 refine (QcY D A c w I).mono ?_;rintro e w' ⟨v,rfl,O,⟨u,T,-⟩ |⟨-,rfl⟩⟩
 ·exact absurd (Qhp T) J
 ·exact⟨rfl,O⟩
theorem QnU (P M:Int)(ml:List Int)(A:Option Addr)(c:Nat)(w:World)(T:I64 P)(U:I64 M)(V:ml.length≤maxLen)(hr:Rd w w.heap.size A ml)(X:¬ Qem P M ml) :
  Calls Tryz.prog 109 #[.agg #[.int .i64 P,.int .i64 M,.slice A ml.length c]] w fun e w'=>e=.returned (.int .i64 1)∧Below w.heap.size w w':=by
 obtain⟨Z,I⟩:=ε (w.alloc (.cells #[.int .i64 P,.int .i64 M,.slice A ml.length c] 24));have J:Below w.heap.size w Z:=by rw[I];exact β
 have ac:w.heap.size<Z.heap.size:=by rw[I];simp
 have k0:=η (show Z.cell? ⟨w.heap.size,0,none⟩=some (.int .i64 P)∧Z.cell? ⟨w.heap.size,1,none⟩=some (.int .i64 M)∧Z.cell? ⟨w.heap.size,2,none⟩=some (.slice A ml.length c) from by rw[I];simp[go_sem]);have O:=Qez P M ml A c Z.drew T.2 U.2 V (hr.bm J).drew;rw[QbO X]at O;replace O:=η O;replace I:=η I;clear T U V X;go_enter Tryz.func109,Tryz.ntmps109;go_wp2_with fail;rw[←I.out];refine wp_region_held_drew (S:=fun w'=>w'.cell? ⟨w.heap.size,0,none⟩=some (.int .i64 P)∧w'.cell? ⟨w.heap.size,1,none⟩=some (.int .i64 M)∧w'.cell? ⟨w.heap.size,2,none⟩=some (.slice A ml.length c)) (by kernel_rfl) (by (try dsimp only);exact k0.out) (fun hHeld=>?_);refine tk 0 ?_;simp only[pS]
 refine rd 1 fun K hK=>?_
 go_simp;go_at_call 86;(with_reducible refine (O).out.mono ?_);rintro e w1 ⟨rfl,Y⟩;go_wp2_with fail;refine hK.out _ _ (Qau Y ac k0.out) fun hHeld=>?_;clear hK K;try simp only[pS]
 refine tk 2 ?_;simp only[pS]
 refine tk 3 ?_;simp only[pS]
 refine tu 4 ?_;simp only[pS]
 refine tu 5 ?_;simp only[pS]
 refine tu 6 ?_;simp only[pS]
 refine tu 7 ?_;simp only[pS]
 refine tu 8 ?_;simp only[pS]
 refine tu 9 ?_;simp only[pS]
 refine tu 10 ?_;simp only[pS]
 refine tu 11 ?_;simp only[pS]
 refine tk 12 ?_;simp only[pS]
 refine δ ?_;go_wp2_with fail;go_ret;exact⟨rfl,J.drew.trans (Y.mono J.size)⟩
theorem Qjr (D:Desc)(A:Option Addr)(c:Nat)(w:World)(hr:Rd w w.heap.size A (Qan D)) :
  Calls Tryz.prog 109 #[.agg #[.int .i64 D.p,.int .i64 D.m,.slice A D.mod.length c]] w fun e w'=>e=.returned (.int .i64 (chk D.p D.m (Qan D)))∧Below w.heap.size w w':=by
 have ai:=D.q2;have aj:=D.q256;have ak:=D.p256;have al:=D.m8;have am:D.mod.length≤8:=by have:=D.hlen;rw[this];split <;> omega
 obtain⟨Z,O⟩:=ε (w.alloc (.cells #[.int .i64 D.p,.int .i64 D.m,.slice A D.mod.length c] 24));have V:Below w.heap.size w Z:=by rw[O];exact β
 have ac:w.heap.size<Z.heap.size:=by rw[O];simp
 have k0:=η (show Z.cell? ⟨w.heap.size,0,none⟩=some (.int .i64 D.p)∧Z.cell? ⟨w.heap.size,1,none⟩=some (.int .i64 D.m)∧Z.cell? ⟨w.heap.size,2,none⟩=some (.slice A D.mod.length c) from by rw[O];simp[go_sem]);have Y:=Qez D.p D.m (Qan D) A c Z.drew (by omega) (by omega) (by rw[Qaf];simp only[maxLen];omega) (hr.bm V).drew;rw[Qaf,Qdc ⟨D,rfl,rfl,rfl⟩]at Y;replace Y:=η Y;have hO:=fun w=>QfE D.p D.m w (by omega) (by omega)
 rw[Qi6]at hO;replace hO:=fun w=>η (hO w)
 have an:=fun (W:World) (a:Option Addr) (n c:Nat)=>Lib.run_eql_slice_nil (P:=Tryz.prog) W 22 3 a n c 0 0 Tryz.underlying22
 replace O:=η O;by_cases X:Qcq D.p D.m (Qan D)
 ·have hG:=fun W h=>η (Quh D A c W h X)
  rw[QdB X];clear X;go_enter Tryz.func109,Tryz.ntmps109;go_wp2_with fail;rw[←O.out];refine wp_region_held_drew (S:=fun w'=>w'.cell? ⟨w.heap.size,0,none⟩=some (.int .i64 D.p)∧w'.cell? ⟨w.heap.size,1,none⟩=some (.int .i64 D.m)∧w'.cell? ⟨w.heap.size,2,none⟩=some (.slice A D.mod.length c)) (by kernel_rfl) (by (try dsimp only);exact k0.out) (fun hHeld=>?_);refine tk 0 ?_;simp only[pS]
  refine rd 1 fun K I=>?_
  go_simp;go_at_call 86;(with_reducible refine (Y).out.mono ?_);rintro e w1 ⟨rfl,U⟩;have T:=η (Qau U ac k0.out);have af:w.heap.size<w1.heap.size:=θ ac U.size;have J:=V.drew.trans (U.mono V.size);go_wp2_with fail;refine I.out _ _ T.out fun hHeld=>?_;clear I K;try simp only[pS]
  refine tk 2 ?_;simp only[pS]
  refine tk 3 ?_;simp only[pS]
  refine tk 4 ?_;simp only[pS]
  refine tk 5 ?_;simp only[pS]
  refine tk 6 ?_;simp only[pS]
  refine tk 7 ?_;simp only[pS]
  refine tk 8 ?_;simp only[pS]
  refine rd 9 fun K I=>?_
  go_simp;go_at_call 87;(with_reducible refine ((hO _)).out.mono ?_);rintro e w9 ⟨rfl,rfl⟩;go_wp2_with fail;refine I.out _ _ T.out fun hHeld=>?_;clear I K;try simp only[pS]
  refine rd 10 fun K I=>?_
  go_simp;go_at_call 88;(with_reducible refine ((hG _ (hr.bm J))).out.mono ?_);rintro e w2 ⟨a,n,cv,rfl,ab⟩;go_wp2_with fail;refine I.out _ _ (Qau ab af T.out) fun hHeld=>?_;clear I K;try simp only[pS]
  refine tk 11 ?_;simp only[pS]
  refine tk 12 ?_;simp only[pS]
  refine δ ?_;go_wp2_with fail;go_ret;exact⟨rfl,ζ J ab⟩
 ·have hG:=fun W h=>η (Qv1 D A c W h X)
  rw[Qej X];clear X;go_enter Tryz.func109,Tryz.ntmps109;go_wp2_with fail;rw[←O.out];refine wp_region_held_drew (S:=fun w'=>w'.cell? ⟨w.heap.size,0,none⟩=some (.int .i64 D.p)∧w'.cell? ⟨w.heap.size,1,none⟩=some (.int .i64 D.m)∧w'.cell? ⟨w.heap.size,2,none⟩=some (.slice A D.mod.length c)) (by kernel_rfl) (by (try dsimp only);exact k0.out) (fun hHeld=>?_);refine tk 0 ?_;simp only[pS]
  refine rd 1 fun K I=>?_
  go_simp;go_at_call 86;(with_reducible refine (Y).out.mono ?_);rintro e w1 ⟨rfl,U⟩;have T:=η (Qau U ac k0.out);have af:w.heap.size<w1.heap.size:=θ ac U.size;have J:=V.drew.trans (U.mono V.size);go_wp2_with fail;refine I.out _ _ T.out fun hHeld=>?_;clear I K;try simp only[pS]
  refine tk 2 ?_;simp only[pS]
  refine tk 3 ?_;simp only[pS]
  refine tk 4 ?_;simp only[pS]
  refine tk 5 ?_;simp only[pS]
  refine tk 6 ?_;simp only[pS]
  refine tk 7 ?_;simp only[pS]
  refine tk 8 ?_;simp only[pS]
  refine rd 9 fun K I=>?_
  go_simp;go_at_call 87;(with_reducible refine ((hO _)).out.mono ?_);rintro e w9 ⟨rfl,rfl⟩;go_wp2_with fail;refine I.out _ _ T.out fun hHeld=>?_;clear I K;try simp only[pS]
  refine rd 10 fun K I=>?_
  go_simp;go_at_call 88;(with_reducible refine ((hG _ (hr.bm J))).out.mono ?_);rintro e w2 ⟨rfl,ab⟩;go_wp2_with fail;refine I.out _ _ (Qau ab af T.out) fun hHeld=>?_;clear I K;try simp only[pS]
  refine tk 11 ?_;simp only[pS]
  refine tk 12 ?_;simp only[pS]
  refine δ ?_;go_wp2_with fail;go_ret;exact⟨rfl,ζ J ab⟩
theorem QnV (P M:Int)(ml:List Int)(A:Option Addr)(c:Nat)(w:World)(O:I64 P)(T:I64 M)(U:ml.length≤maxLen)(J:Rd w w.heap.size A ml) :
  Calls Tryz.prog 109 #[.agg #[.int .i64 P,.int .i64 M,.slice A ml.length c]] w fun e w'=>e=.returned (.int .i64 (chk P M ml))∧Below w.heap.size w w':=by
 by_cases I:Qem P M ml
 ·obtain⟨D,rfl,rfl,rfl⟩:=I;rw[Qaf];exact Qjr D A c w J
 ·rw[Qej (fun h=>I h.valid)];exact QnU P M ml A c w O T U J I
end
section
def Two (w:World)(b:Nat)(I v1:Value):Prop:=w.cell? ⟨b,0,none⟩=some I∧w.cell? ⟨b,1,none⟩=some v1∧w.frozen? ⟨b,0,none⟩=false∧w.frozen? ⟨b,1,none⟩=false
theorem Two.keep {B b:Nat} {w w1:World} {O v1:Value} (h:Two w b O v1)(I:Below B w w1)(J:b<B):Two w1 b O v1 :=
 ⟨(I.cell (p:=⟨b,0,none⟩) J).trans h.1,(I.cell (p:=⟨b,1,none⟩) J).trans h.2.1,(I.frozen (p:=⟨b,0,none⟩) J).trans h.2.2.1,(I.frozen (p:=⟨b,1,none⟩) J).trans h.2.2.2⟩
theorem Two.new (w:World)(I v1:Value)(t:TypeId):Two (w.alloc (.cells #[I,v1] t)) w.heap.size I v1:=by unfold Two;simp[go_sem]
end
section
theorem QnW (i:Nat)(w:World)(V:i≤1000) :
  Calls Tryz.prog 192 #[.int .i64 i] w (Qcj w.heap.size ((List.replicate (i+1) (0:Int)).set i 1) w):=by
 have U:=fun W=>QaC (i+1) (by omega) W
 push_cast at U
 have X:IntKind.i64.wrap ((i:Int)+1)=(i:Int)+1:=IntWalk.i64_in _ (by omega);have Y:(0:Int)≤(i:Int):=by omega
 have aa:(i:Int)<(i:Int)+1:=by omega
 have O:=IB.newz w (i+1);have ab:=O.frozen i;have ac:=O.cell (i:=i) (by simp);have T:(w.alloc (.cells (Array.replicate (i+1) (Value.int .i64 0)) 3)).setCell ⟨w.heap.size,i,none⟩ (.int .i64 1)=w.alloc (.cells ((Array.replicate (i+1) (Value.int .i64 0)).setIfInBounds i (.int .i64 1)) 3):=by simp[go_sem]
 have I:=(O.set_ i 1);have J:=(((Below.refl w.heap.size w).alloc ρ (.cells (Array.replicate (i+1) (Value.int .i64 0)) 3)).setCell (p:=⟨w.heap.size,i,none⟩) ρ (.int .i64 1));rw[T]at I J;replace T:=η T;replace I:=η I;replace J:=η J;go_enter Tryz.func192,Tryz.ntmps192;go_wp2_with fail;go_ret;exact⟨w.heap.size,by simp,Nat.le_refl _,I.out,J.out⟩
end
section
def QqM (i:Nat):List Int:=(List.replicate (i+1) (0:Int)).set i 1
theorem QhG (i:Nat):(QqM i).length=i+1:=by simp[QqM]
theorem Qc4.low {w:World} {B B' n:Nat} {v:Value} {rows:Nat→List Int} (h:Qc4 w B v n rows)(J:B'≤B):Qc4 w B' v n rows:=by
 obtain⟨U,V,O,X⟩:=h;refine⟨U,V,⟨O.1,?_⟩,fun i hi=>?_⟩
 ·rcases O.2 with I |⟨g,cap,ae,e,hb,rest⟩
  ·exact .inl I
  ·exact .inr ⟨g,cap,ae,e,τ J hb,rest⟩
 ·obtain⟨Y,c,a1,a2,a3,a4,T⟩:=X i hi;exact⟨Y,c,a1,a2,a3,a4,fun I a e=>⟨(T I a e).1,τ J (T I a e).2⟩⟩
def QkE (D:Desc)(pts mul:List Int):Nat→List Int:=fun i=>Qa5 D pts mul (QqM i)
theorem QnX (D:Desc)(kn:Nat)(pts mul:List Int)(A J O:Option Addr)(c c1 c2:Nat)(w:World)(hr:Rd w w.heap.size A (Qan D))(aw:Rd w w.heap.size J pts)(ax:Rd w w.heap.size O mul)
  (ac:mul.length=pts.length) (hl:pts.length≤64) (hk:kn≤64) :
  Calls Tryz.prog 137 #[.agg #[.int .i64 D.p,.int .i64 D.m,.slice A D.mod.length c,.int .i64 (kn:Int),.slice J pts.length c1,.slice O mul.length c2]] w fun e w'=>∃v,e=.returned v∧Qc4 w' w.heap.size v kn (QkE D pts mul)∧Below w.heap.size w w':=by
 have hP:=fun (i:Nat) (W:World) (h:i≤1000)=>η (show Calls Tryz.prog 192 #[.int .i64 i] W (Qcj W.heap.size (QqM i) W) from QnW i W h)
 have hW:=fun i A3 c3 W a b c' d (hi:i≤64)=>η (QnK D kn pts mul (QqM i) A J O A3 c c1 c2 c3 W a b c' d ac hl (by rw[QhG];unfold maxLen;omega))
 obtain⟨Z,T⟩:=ε (w.alloc (.cells #[.int .i64 D.p,.int .i64 D.m,.slice A D.mod.length c,.int .i64 (kn:Int),.slice J pts.length c1,.slice O mul.length c2] 94));have hB:Below w.heap.size w Z:=by rw[T];exact β
 have ak:w.heap.size<Z.heap.size:=by rw[T];simp
 have k0:=η (show Z.cell? ⟨w.heap.size,0,none⟩=some (.int .i64 D.p)∧Z.cell? ⟨w.heap.size,1,none⟩=some (.int .i64 D.m)∧Z.cell? ⟨w.heap.size,2,none⟩=some (.slice A D.mod.length c)∧Z.cell? ⟨w.heap.size,3,none⟩=some (.int .i64 (kn:Int))∧Z.cell? ⟨w.heap.size,4,none⟩=some (.slice J pts.length c1)∧Z.cell? ⟨w.heap.size,5,none⟩=some (.slice O mul.length c2) from by rw[T];simp[go_sem]);have a2:=η ac;replace T:=η T;clear ac;go_enter Tryz.func137,Tryz.ntmps137;go_wp2_with fail;rw[←T.out];go_loopw [4,3] (fun iS v wr=>∃k:Nat,k≤kn∧iS=.int .i64 k∧Qc4 wr Z.heap.size v k (QkE D pts mul)∧Hid (wr.cell? ⟨w.heap.size,0,none⟩=some (.int .i64 D.p)∧wr.cell? ⟨w.heap.size,1,none⟩=some (.int .i64 D.m)∧wr.cell? ⟨w.heap.size,2,none⟩=some (.slice A D.mod.length c)∧wr.cell? ⟨w.heap.size,3,none⟩=some (.int .i64 (kn:Int))∧wr.cell? ⟨w.heap.size,4,none⟩=some (.slice J pts.length c1)∧wr.cell? ⟨w.heap.size,5,none⟩=some (.slice O mul.length c2))∧Below w.heap.size w wr∧Z.heap.size≤wr.heap.size) (fun iS _ _=>kn - (intOf iS).toNat)
 case atStart=>exact⟨0,by omega,rfl,Qc4.nil _ _ _,k0,hB,Nat.le_refl _⟩
 case round =>
  clear k0 hB T;obtain⟨w3,rfl⟩:=ε (wr:World);obtain⟨k,a5,rfl,ab,kk,V,a6⟩:=hrel;obtain⟨Av,cv,rfl⟩:=ab.size;obtain⟨q0,q1,q2,q3,q4,q5⟩:=kk.out;by_cases be:k<kn
  ·have al:w.heap.size<w3.heap.size:=by omega
   have am:=hP k w3.drew (by omega);unfold Qcj at am;clear q0 q1 q2 q4 q5;go_wp2_with fail;refine wp_region_held_drew (S:=fun w'=>w'.cell? ⟨w.heap.size,0,none⟩=some (.int .i64 D.p)∧w'.cell? ⟨w.heap.size,1,none⟩=some (.int .i64 D.m)∧w'.cell? ⟨w.heap.size,2,none⟩=some (.slice A D.mod.length c)∧w'.cell? ⟨w.heap.size,3,none⟩=some (.int .i64 (kn:Int))∧w'.cell? ⟨w.heap.size,4,none⟩=some (.slice J pts.length c1)∧w'.cell? ⟨w.heap.size,5,none⟩=some (.slice O mul.length c2)) (by kernel_rfl) (by (try dsimp only);exact kk.out) (fun hHeld=>?_);refine tk 0 ?_;simp only[pS]
   refine tk 1 ?_;simp only[pS]
   refine tk 2 ?_;simp only[pS]
   refine rd 3 fun K I=>?_
   go_simp;go_at_call 192;(with_reducible refine (am).out.mono ?_);rintro e w4 ⟨g4,rfl,ba,aS,X⟩;have an:=η (QbS X al kk.out);have U:=V.drew.trans (X.mono V.size);have aA:w3.heap.size≤w4.heap.size:=X.size;have ao:=hW k (some ⟨g4,0,none⟩) (QqM k).length w4 (hr.bm U) (aw.bm U) (ax.bm U) aS.rd (by omega);unfold Qcj at ao;go_wp2_with fail;refine I.out _ _ an.out fun hHeld=>?_;clear I K;try simp only[pS]
   refine rd 4 fun K I=>?_
   go_simp;go_at_call 191;(with_reducible refine (ao).out.mono ?_);rintro e Y ⟨g5,rfl,au,aT,af⟩;have ad:=η (QbS af (θ al aA) an.out);have ap:Below w3.heap.size w3 Y:=(Below.refl _ w3).drew.trans (ζ X af);have aB:=ab.below ap ρ;have a3:w4.heap.size≤Y.heap.size:=af.size;obtain⟨aO,p1,p2,p3⟩:=aB;have aC:w.heap.size<Y.heap.size:=by omega
   go_wp2_with fail;refine I.out _ _ ad.out fun hHeld=>?_;clear I K;try simp only[pS]
   refine rd 5 fun K I=>?_
   go_simp;refine I.out _ _ (QbS ((Below.refl Y.heap.size Y).alloc ρ _) aC ad.out) fun hHeld=>?_;clear I K;try simp only[pS]
   refine rd 6 fun K I=>?_
   refine QnT rfl (.tmp 11) (.tmp 16) rfl Z.heap.size _ aO _ rfl p2 (by rfl) (by rfl) rfl (by rw[p1];omega) (by omega) ?_;intro v6 w6 aV ag aW aX;have aq:=η (QbS ag ak ad.out);refine I.out _ _ aq.out fun hHeld=>?_;clear I K;try simp only[pS]
   refine tk 7 ?_;simp only[pS]
   refine δ ?_;have aD:(QkE D pts mul k).length≤64:=by unfold QkE;rw[Qcs];exact hl
   have aE:=Qc4.snoc (rows:=QkE D pts mul) p1 p3 (Ak:=some ⟨g5,0,none⟩) (ck:=(Qa5 D pts mul (QqM k)).length) aT.rd ρ (by unfold maxLen;exact τ aD (by omega)) (fun _ a e=>by cases e;exact⟨fun e2=>by have h2:=(World.ownsRow.lt (ab.choose_spec.2.1) _ e2).2;have h3:w4.heap.size≤g5:=au;have h4:g5<w3.heap.size:=h2;omega,show Z.heap.size≤g5 by have h3:w4.heap.size≤g5:=au;omega⟩) aV aW aX;have aH:=η (V.trans ((ap.mono V.size).trans (ag.mono (by omega))));have aI:Hid (Z.heap.size≤w6.heap.size):=τ (by omega) ag.size;go_wp2_with fail;go_roundw
   case rel=>exact⟨k+1,by omega,by go_num,aE,aq,aH.out,aI.out⟩
   case measure=>simp[intOf];omega
  ·obtain rfl:k=kn:=by omega
   go_wp2_with fail;go_ret;exact⟨_,rfl,ab.low (Nat.le_of_lt ak),V⟩
end
section
theorem QmD (i j:Nat)(h:j<i+1):(QqM i)[j]?.getD 0=if j=i then 1 else 0:=by
 unfold QqM;rw[List.getElem?_set];by_cases e:i=j
 ·subst e;simp
 ·rw[if_neg e,if_neg (fun h=>e h.symm)];simp[List.getElem?_replicate,h]
theorem QpS (D:Desc)(i:Nat)(u:R D):QaW D (QqM i) u=pw u i:=by
 unfold QaW;rw[QhG,Qak (k:=i) (Nat.lt_succ_self _) fun j I J=>?_]
 ·rw[QmD i i (Nat.lt_succ_self _),if_pos rfl,QcQ,Qav]
 ·rw[QmD i j I,if_neg J,QbC,Qah]
theorem QrZ (D:Desc)(pts mul:List Int):QkE D pts mul=Qaw D pts.length (gM D pts mul):=funext fun i=>by
 unfold QkE Qaw QaK Qa5 gM;simp only[QpS]
end
section
theorem Qc4.rd {w:World} {B n:Nat} {v:Value} {rows:Nat→List Int} (h:Qc4 w B v n rows):∃A c,v=.slice A n c∧RdM w w.heap.size A n rows:=by
 obtain⟨A,c,rfl⟩:=h.size;refine⟨A,c,rfl,?_⟩;by_cases h0:0<n
 ·obtain⟨g,c',e,J,-,-,O⟩:=h.mb h0;have I:A=some ⟨g,0,none⟩:=by injection e
  rw[I];exact (O.rdmU J).rdm
 ·obtain rfl:n=0:=by omega
  exact RdM.zero
end
end Go.Proofs
