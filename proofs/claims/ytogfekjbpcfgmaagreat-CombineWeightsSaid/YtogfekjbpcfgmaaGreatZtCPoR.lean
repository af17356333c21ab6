/- Layer 7 of the program: Degree, Sum, each, Trace, Norm. The program's Elements and layer 7's Subfield: a range over a function. The program's Roots: a range over a function. -/
import Derived.LoopIn
import Derived.LoopNIn
import Derived.OwnWalkIn
import Derived.RangeFuncBound
import Derived.RangeFuncBox
import Derived.RangeFuncCalls
import Derived.RangeFuncLeaves
import Derived.RangeFuncNested
import Derived.Shelf.Abstract
import Derived.Shelf.RegionOpen
import Derived.TacticsInMore
import Derived.WalkKit
import Derived.Test.YtogfekjbpcfgmaaGreatZtCTowA
import Derived.Test.YtogfekjbpcfgmaaGreatZtCGpoA
namespace Go.Proofs.YtogfekjbpcfgmaaGreat
section
open Go.RowKit Cw

theorem kmod_nat (m d:Nat):kmod m (d:Int)=d % m:=by
 unfold kmod; rw[←Int.natCast_emod]; exact Int.toNat_natCast _
theorem frob_kmod (D:FD)(d:Nat)(u:R D.toDesc):frob (kmod D.m (d:Int)) u=frob d u:=by
 rw[kmod_nat]; exact frob_mod (F:=R D.toDesc) d u

set_option maxHeartbeats 1000000 in
theorem teach_any (D:FD)(x:Int)(d:Nat)(g:Nat)(w:World)(hg:GF w w.heap.size g D)(hd1:1≤d)(hd2:d≤8) :
  Calls Tryz.prog 165 #[.pointer (some ⟨g,0,none⟩),.int .i64 x,.int .i64 d] w fun e w' =>
   ∃ g1,e=.returned (.slice (some ⟨g1,0,none⟩) (D.m / d) (D.m / d))∧w.heap.size≤g1∧IB w' g1 (frobs d (eli D.toDesc x) (D.m / d))∧Below w.heap.size w w':=by
 have hm8:=D.m8; have hm1:=D.m1;have hN:D.m / d≤8:=Nat.le_trans (Nat.div_le_self _ _) hm8;obtain⟨N,hNe⟩:∃ N,N=D.m / d:=⟨_,rfl⟩;rw[←hNe]at hN ⊢;have hdiv:(D.m:Int) / (d:Int)=(N:Int):=by rw[hNe]; rfl
 have hmk:=mk_ints N (by omega);have hP:=Lib.hid (tprime_any D g w hg);have hF:=fun y W hg=>Lib.hid (tFrob_any D y d g W hg (by omega) (by omega))
 have hA:=fun W hg=>Lib.hid (gAdd_any D x 0 g W hg)
 generalize hu:eli D.toDesc x=u at *;rw[eli_zero,add_zero]at hA;clear hu hNe;go_enter Tryz.func165,Tryz.ntmps165;go_wp2_with (fail);refine hP.out.mono ?_;rintro e w1 ⟨rfl,hb1⟩;have hg1:=(hg.below hb1).more hb1.size;go_wp2_with (fail);have hA2:=hA (w1.alloc (.cells (Array.replicate N (Value.int .i64 0)) 3)) ((hg1.below ((Below.refl _ _).alloc (Nat.le_refl _) _)).more (by simp));refine hA2.out.mono ?_;rintro e w2 ⟨rfl,hb2⟩;obtain⟨g1,hg1e⟩:∃ t,t=w1.heap.size:=⟨_,rfl⟩;have hib:IB w2 g1 (upd N 0 (fun i=>ci (frob (d*i) u))):=by
  rw[upd_zero,hg1e]; exact (IB.newz w1 N).below hb2 (by simp)
 have hbw2:Below w.heap.size w w2:=(hb1.alloc hb1.size _).trans (hb2.mono (by have:=hb1.size; simp; omega));have hg2:=(hg.below hbw2).more hbw2.size;have hgl:w.heap.size≤g1:=by rw[hg1e]; exact hb1.size
 rw[←hg1e];clear hg1e hA2 hA hP hmk hb1 hb2 hg1;go_wp2_with (fail);clear hdiv;go_loopw [26,11,10] (fun i _ y wr=>∃ k:Nat,k≤N∧i=.int .i64 k∧y=.int .i64 (ci (frob (d*k) u))∧IB wr g1 (upd N k (fun i=>ci (frob (d*i) u)))∧Below w.heap.size w wr) (fun i _ _ _=>N - (intOf i).toNat)
 case atStart=>exact⟨0,by omega,rfl,by rw[Nat.mul_zero,frob_zero_k],hib,hbw2⟩
 case round =>
  clear hib;obtain⟨k,hk,rfl,rfl,hib,hbw⟩:=hrel;by_cases hlt:k<N
  ·have hc:=hib.cell (i:=k) (by rw[upd_length]; exact hlt);have hf:=hib.frozen k;have hset:=hib.set_ k (ci (frob (d*k) u));rw[upd_set N k (fun i=>ci (frob (d*i) u))]at hset;replace hset:=Lib.hid hset;have hbs:Below w.heap.size w (wr.setCell ⟨g1,k,none⟩ (.int .i64 (ci (frob (d*k) u)))):=hbw.setCell (p:=⟨g1,k,none⟩) hgl _;have hF2:=(hF (ci (frob (d*k) u)) _ ((hg.below hbs).more hbs.size)).out;rw[eli_ci,frob_kmod,frob_frob,show d+d*k=d*(k+1) by rw[Nat.mul_succ]; omega]at hF2;replace hF2:=Lib.hid hF2;have hgk:=hib.lt;clear hib;go_wp2_with (fail);refine hF2.out.mono ?_;rintro e w3 ⟨rfl,hb3⟩;go_wp2_with (fail);go_roundw
   case rel=>exact⟨k+1,by omega,by go_num,rfl,hset.out.below hb3 (by simpa [World.setCell] using hgk),hbs.trans (hb3.mono hbs.size)⟩
   case measure=>simp[intOf]; omega
  ·obtain rfl:k=N:=by omega
   rw[upd_full]at hib;go_wp2_with (fail);go_ret;exact⟨g1,rfl,hgl,hib,hbw⟩

end
section
open Go.RowKit Go.Shelf Cw
attribute [local go_sem] Oper.semAt_some

def upI (k:Nat):List Int:=(List.range k).map fun i:Nat=>(i:Int)
theorem upI_succ (k:Nat):upI (k+1)=upI k ++ [(k:Int)]:=by simp[upI,List.range_succ]

set_option maxRecDepth 100000 in
set_option maxHeartbeats 1000000 in
theorem elements_in (F:Fence)(n:Nat)(h5:F.fn 211)(hro:F.round=none)(g:Nat)(w:World) :
  CallsIn F n Tryz.prog 211 #[.pointer (some ⟨g,0,none⟩)] w fun e w' =>
   e=.returned (.func (.func 230) #[] #[.pointer (some ⟨w.heap.size,0,none⟩)])∧w'=w.alloc (.cells #[.pointer (some ⟨g,0,none⟩)] 66):=by
 refine callsIn_of_wp Tryz.func211 rfl h5 ?_ hro;simp only[Tryz.ntmps211,List.size_toArray,List.length_cons,List.length_nil,Nat.reduceAdd,Nat.reduceSub,Array.replicate_succ,Array.replicate_zero,List.push_toArray,List.append_toArray,List.nil_append,List.cons_append]
 gi_wp2
 go_ret;exact⟨rfl,rfl⟩

set_option maxRecDepth 100000 in
set_option maxHeartbeats 1000000 in
theorem elements1_in (F:Fence)(n:Nat)(h6:F.fn 230)(hro:F.round=none)(hn:1≤n)(l Bn n₀ g:Nat)(D:FD)(J Jx:List Int→World→Prop)
  (hY:∀ pre x W,J pre W→pre.length<D.q→YieldAt F (n - 1) Tryz.prog l #[.int .i64 x] W fun e W' =>
   (e=.returned (.bool true)∧J (pre ++ [x]) W'∧Below n₀ W W')∨(e=.returned (.bool false)∧Jx (pre ++ [x]) W'))
  (W:World) (hBn:W.cell? ⟨Bn,0,none⟩=some (.pointer (some ⟨g,0,none⟩))) (hq:W.cell? ⟨g,3,none⟩=some (.int .i64 D.q)) (h0:J [] W) :
  CallsIn F n Tryz.prog 230 #[.func (.yield l) #[] #[],.pointer (some ⟨Bn,0,none⟩)] W fun e W'=>(∃ v,e=.returned v) ∧
   ((∃ ys,ys=upI D.q∧J ys W')∨(∃ pre,pre <+: upI D.q∧Jx pre W')):=by
 have hq3:=D.q256;refine callsIn_of_wp Tryz.func230 rfl h6 ?_ hro;simp only[Tryz.ntmps230,List.size_toArray,List.length_cons,List.length_nil,Nat.reduceAdd,Nat.reduceSub,Array.replicate_succ,Array.replicate_zero,List.push_toArray,List.append_toArray,List.nil_append,List.cons_append]
 gi_wp2
 gi_loopw [8,3] (fun i _ wr=>∃ k:Nat,k≤D.q∧i=.int .i64 k∧J (upI k) wr) (fun i _ _=>D.q - (intOf i).toNat)
 case atStart=>exact⟨0,by omega,rfl,h0⟩
 case round =>
  obtain⟨k,hk,rfl,hJs⟩:=hrel;by_cases hlt:k<D.q
  ·obtain⟨fn,tmps,assign,body,hy,hR⟩:=hY (upI k) (k:Int) wr hJs (by simp[upI]; exact hlt)
   gi_wp2
   refine hR.mono ?_;rintro e W3 (⟨rfl,hJ3,hk3⟩ | ⟨rfl,hJx3⟩)
   ·gi_wp2
    go_roundw
    case rel=>exact⟨k+1,by omega,by go_num,by rw[upI_succ]; exact hJ3⟩
    case measure=>simp[intOf]; omega
   ·gi_wp2
    refine bodyPost_ret (results_none rfl _ _ _) rfl ?_;refine⟨⟨_,rfl⟩,.inr ⟨_,?_,hJx3⟩⟩;rw[←upI_succ];obtain⟨t,ht⟩:∃ t,D.q=k+1+t:=⟨D.q - k - 1,by omega⟩;rw[ht];exact⟨(List.range t).map fun i:Nat=>((k+1+i:Nat):Int),by
     unfold upI
     conv=>rhs; rw[List.range_add,List.map_append,List.map_map]
     rfl⟩
  ·obtain rfl:k=D.q:=by omega
   gi_wp2
   go_end0;exact⟨⟨_,rfl⟩,.inl ⟨_,rfl,hJs⟩⟩

theorem elements_stops (F:Fence)(n:Nat)(h6:F.fn 230)(hro:F.round=none)(hn:1≤n)(Bn n₀ g:Nat)(D:FD)(w:World)(hBn:Bn<w.heap.size)(hn₀:n₀≤w.heap.size)(hgl:g<n₀)
  (hc:w.cell? ⟨Bn,0,none⟩=some (.pointer (some ⟨g,0,none⟩))) (hq:w.cell? ⟨g,3,none⟩=some (.int .i64 D.q)) :
  SeqStopsK F n Tryz.prog 230 #[.pointer (some ⟨Bn,0,none⟩)] (fun x:Int=>#[Value.int .i64 x]) (Below n₀) (fun ys=>ys=upI D.q) (fun pre=>pre <+: upI D.q) D.q w:=fun l J Jx W hW _ _ hY h0 =>
 elements1_in F n h6 hro hn l Bn n₀ g D J Jx hY W ((hW.cell (p:=⟨Bn,0,none⟩) hBn).trans hc) ((hW.cell (p:=⟨g,3,none⟩) (Nat.lt_of_lt_of_le hgl hn₀)).trans hq) h0
end
section
open Go.RowKit Go.Shelf Cw
attribute [local go_sem] Oper.semAt_some

set_option maxRecDepth 100000 in
set_option maxHeartbeats 4000000 in
theorem pRoots_any (D:FD)(p:List Int)(A1:Option Addr)(c1 g:Nat)(w:World)(hg:GF w w.heap.size g D)(hr1:Rd w w.heap.size A1 p)(hl:p.length≤70000)(hne:canI D.toDesc p≠[]) :
  Calls Tryz.prog 169 #[.pointer (some ⟨g,0,none⟩),.slice A1 p.length c1] w fun e w' =>
   ∃ v,e=.returned (.tuple #[v,.int .i64 0])∧Own w' w.heap.size v (rootF D (canI D.toDesc p) (upI D.q))∧Below w.heap.size w w':=by
 have hC:=fun W a b=>gCanonP_any D p A1 c1 g W a b hl
 obtain⟨cp,hcp⟩:∃ cp,cp=canI D.toDesc p:=⟨_,rfl⟩;rw[←hcp]at hC hne ⊢;unfold GivesR at hC;have hcl:cp.length≤70000:=by rw[hcp]; exact Nat.le_trans (canI_le _ _) hl
 have hc0:((cp.length:Int)==0)=false:=by
  rw[beq_eq_false_iff_ne]; intro e;exact hne (List.eq_nil_of_length_eq_zero (by omega))
 replace hcp:=Lib.hid hcp;have hB:Below w.heap.size w (w.alloc (.cells #[.pointer (some ⟨g,0,none⟩)] 66)):=(Below.refl _ _).alloc (Nat.le_refl _) _;have hC2:=Lib.hid (hC _ ((hg.below hB).more hB.size) ((hr1.below hB).more hB.size));clear hC hne;refine (callsIn_wide (n:=3)).1 ?_;refine callsIn_of_wp_marks Tryz.func169 rfl trivial ?_ rfl;simp only[Tryz.ntmps169,List.size_toArray,List.length_cons,List.length_nil,Nat.reduceAdd,Nat.reduceSub,Array.replicate_succ,Array.replicate_zero,List.push_toArray,List.append_toArray,List.nil_append,List.cons_append];have bG0:=(Boxed.new w 66 (.pointer (some ⟨g,0,none⟩)));have hmx:Tryz.prog.follows .mixedOrders=true:=by kernel_rfl
 obtain⟨i0,hi,hz0,hz1,hz2⟩:=info_parts infoInt
 gi_wp2_with (first
  | (refine⟨trivial,?_⟩; gi_at_call 181; refine (callsIn_wide.2 hC2.out).mono ?_; rintro e w1 ⟨A,c,rfl,hrc,hcc,hcm,hAn,hb1⟩; have hs1:=hb1.size; simp only[World.size_alloc]at hs1; have bG1:Boxed w1 w.heap.size 66 (.pointer (some ⟨g,0,none⟩)):=(hb1.block _ (by simp)).trans bG0; have cG1:=bG1.cell; have hlt1:w.heap.size<w1.heap.size:=by omega)
  | (refine⟨trivial,?_⟩; gi_at_call 211; refine (elements_in Fence.wide _ trivial rfl g _).mono ?_; rintro e w2 ⟨rfl,rfl⟩))
 have hgl:g<w.heap.size:=hg.lt;obtain⟨W2,hW2⟩:∃ W2,W2=w1.alloc (.cells #[.slice A cp.length c] 22):=⟨_,rfl⟩;have hs2:W2.heap.size=w1.heap.size+1:=by rw[hW2]; simp
 have hbW2:Below w1.heap.size w1 W2:=by rw[hW2]; exact (Below.refl _ _).alloc (Nat.le_refl _) _
 have bC2:Boxed W2 w1.heap.size 22 (.slice A cp.length c):=by rw[hW2]; exact Boxed.new w1 _ _
 have bG2:Boxed W2 w.heap.size 66 (.pointer (some ⟨g,0,none⟩)):=(hbW2.block _ hlt1).trans bG1;have hW1:Below w.heap.size w w1:=hB.trans (hb1.mono hB.size);have hW02:Below w.heap.size w W2:=hW1.trans (hbW2.mono hW1.size);have hrc2:Rd W2 W2.heap.size A cp:=(hrc.below hbW2).more hbW2.size;have hg2:GF W2 w.heap.size g D:=hg.below hW02;rw[←hW2];rw[←hs2];replace hW2:=Lib.hid hW2;have hs2':=Lib.hid hs2;have hw1W:w1.heap.size<W2.heap.size:=by omega
 have hwW:w.heap.size<W2.heap.size:=by omega
 clear hs2;clear hrc hcc hAn hb1 bG1 cG1 hW1 hB hC2 bG0 hbW2;have bO:=Boxed.new W2 22 (.slice none 0 0);have bN:=Boxed.new (W2.alloc (.cells #[.slice none 0 0] 22)) 66 (.pointer (some ⟨g,0,none⟩));rw[World.size_alloc]at bN;have hB0:Below W2.heap.size W2 ((W2.alloc (.cells #[.slice none 0 0] 22)).alloc (.cells #[.pointer (some ⟨g,0,none⟩)] 66)):=((Below.refl _ W2).alloc (Nat.le_refl _) _).alloc (by simp) _;have hle:w.heap.size≤W2.heap.size:=hW02.size;refine wpIn_rangeFunc_ownG rfl (by omega) (gf:=230) (lb:=#[.pointer (some ⟨W2.heap.size+1,0,none⟩)]) rfl trivial (enters_of Tryz.func230 (by kernel_rfl) rfl)
  (elements_stops Fence.wide _ trivial rfl (by omega) (W2.heap.size+1) W2.heap.size g D _ (by simp) (by simp; omega) (by omega) bN.cell ((hB0.cell (p:=⟨g,3,none⟩) (by simp; omega)).trans hg2.c3)) belowK_t (belowK_b (by simp; omega)) (Below.refl _ _) (fun _=>rfl)
  (fun pre W=>(∃ v,Boxed W W2.heap.size 22 v∧W.ownsRow W2.heap.size 3 1 v (rootF D cp pre).length ((rootF D cp pre).map (Value.int .i64))∧True)∧Below W2.heap.size W2 W)
  (fun _ _ _=>False)
  (OwnFrom.and (Own.from (holdsRow_own W2.heap.size W2.heap.size 22 3 1 (fun pre=>(rootF D cp pre).length) (fun pre=>(rootF D cp pre).map (Value.int .i64)) (fun _ _=>True)) _) (ownFrom_below (Nat.le_refl _) (by simp; omega)))
  (fun _ _ _ _ _ hs _ _=>hs)
  ⟨⟨_,bO.alloc _,World.ownsRow_nil _ _ _ _,trivial⟩,hB0⟩
  (fun x=>{ tmps:=#[.pointer (some ⟨g,0,none⟩),.slice A1 p.length c1,.pointer (some ⟨w.heap.size,0,none⟩),undef,.slice none 0 0,.int .i64 0,.pointer (some ⟨w1.heap.size,0,none⟩),.pointer (some ⟨W2.heap.size,0,none⟩),.int .i64 x,.pointer (some ⟨g,0,none⟩),.slice A1 p.length c1,.slice A cp.length c,.slice A cp.length c,.int .i64 (cp.length:Nat),.bool false,.pointer (some ⟨g,0,none⟩),.func (.func 230) #[] #[.pointer (some ⟨W2.heap.size+1,0,none⟩)],.int .i64 x,undef,undef,undef,undef,undef,undef,undef,undef,undef,undef],defers:=[] }) ?assign ?body ?done ?stop
 case assign =>
  intro l x W K hK
  gi_wp2
  exact hK
 case body =>
  rintro l pre x W ⟨⟨v,hv,hrow,-⟩,hBW⟩ hlt;have hc:=hv.cell;have hpl:(rootF D cp pre).length≤pre.length:=List.length_filter_le _ _;have hq3:=D.q256;have cG2:W.cell? ⟨w.heap.size,0,none⟩=some (.pointer (some ⟨g,0,none⟩)):=(hBW.cell (p:=⟨w.heap.size,0,none⟩) hwW).trans bG2.cell;have cC2:W.cell? ⟨w1.heap.size,0,none⟩=some (.slice A cp.length c):=(hBW.cell (p:=⟨w1.heap.size,0,none⟩) hw1W).trans bC2.cell;have hgW:GF W W.heap.size g D:=((hg2.more hle).below hBW).more hBW.size;have hE:=pEval_any D cp x A c g W hgW ((hrc2.below hBW).more hBW.size) (by unfold maxLen; omega);obtain⟨y,hy⟩:∃ y,y=ci (pevI D.toDesc cp (eli D.toDesc x)):=⟨_,rfl⟩;rw[←hy]at hE;have hE2:Hid (Calls Tryz.prog 180 #[.pointer (some ⟨g,0,none⟩),.slice A cp.length c,.int .i64 x] W fun e w'=>w'.cell? ⟨W2.heap.size,0,none⟩=some v∧e=.returned (.int .i64 y)∧Hid (Below W.heap.size W w')) :=
   Lib.hid (hE.mono (by rintro e w' ⟨rfl,h3⟩; exact⟨(h3.cell (p:=⟨W2.heap.size,0,none⟩) hv.lt).trans hc,rfl,Lib.hid h3⟩))
  clear hE hc;by_cases hfx:pevI D.toDesc cp (eli D.toDesc x)=0
  ·have hx:=Lib.hid (rootF_hit D cp pre hfx);have hz:(y==0)=true:=by rw[beq_iff_eq,hy,hfx,ci_zero]
   clear hfx hy
   gi_wp2_with (first | (refine⟨trivial,?_⟩; gi_at_call 180; refine (CallsIn.inRound l (callsIn_wide.2 hE2.out)).mono ?_; rintro e w3 ⟨cO3,rfl,hb3⟩; have hb4:Below W.heap.size W w3:=hb3.out; have hv3:Boxed w3 W2.heap.size 22 v:=(hb4.block _ hv.lt).trans hv; have hrow3:w3.ownsRow W2.heap.size 3 1 v (rootF D cp pre).length ((rootF D cp pre).map (Value.int .i64)):=World.ownsRow.kept hrow (below_grown hb4 (Nat.le_refl _)) (by cases v.ownBlock <;> simp); have hko3:KeepsOthers W w3:=KeepsOthers.of_grownBy (below_grown hb4 (Nat.le_refl _)) (fun j o ej=>by cases ej); have hb5:Below W2.heap.size W w3:=hb4.mono hBW.size; have hsz3:W2.heap.size≤w3.heap.size:=Nat.le_trans hBW.size hb4.size) | (gi_at_builtin; refine wpListIn_append_own _ rfl _ _ 22 rfl W2.heap.size 3 i0 (.int .i64 0) 1 8 Tryz.underlying22 hi hz0 hz1 hz2 rfl (by decide) _ _ _ rfl (hrow3.alloc _) ⟨w3.heap.size,0,none⟩ 1 1 [.int .i64 x] rfl rfl (cell_one_new _ _ _) (by simp[Value.oneCell']) (by simp only[maxLen]; omega) (by omega) (by simp; omega) ?_; intro v' w4 hown' hgrow _; obtain⟨g',cap',rfl⟩:=ownsRow_succ hown'; obtain⟨hv1,hv2,hr2,hk2,hb2⟩:=hv3.appended (by decide) hrow3 hsz3 (Nat.le_refl _) hown' hgrow; have hc1:=hv1.cell; have hf1:=hv1.frozen))
   exact⟨(hko3.trans hk2).from _,hb5.trans hb2,⟨_,hv2,by rw[hx.out]; simpa using hr2,trivial⟩,hBW.trans (hb5.trans hb2)⟩
  ·have hx:=Lib.hid (rootF_miss D cp pre hfx);have hz:(y==0)=false:=by rw[beq_eq_false_iff_ne,hy]; exact fun e=>hfx (ci_eq_zero.1 e)
   clear hfx hy
   gi_wp2_with ((refine⟨trivial,?_⟩; gi_at_call 180; refine (CallsIn.inRound l (callsIn_wide.2 hE2.out)).mono ?_; rintro e w3 ⟨cO3,rfl,hb3⟩; have hb4:Below W.heap.size W w3:=hb3.out; have hv3:Boxed w3 W2.heap.size 22 v:=(hb4.block _ hv.lt).trans hv; have hrow3:w3.ownsRow W2.heap.size 3 1 v (rootF D cp pre).length ((rootF D cp pre).map (Value.int .i64)):=World.ownsRow.kept hrow (below_grown hb4 (Nat.le_refl _)) (by cases v.ownBlock <;> simp); have hko3:KeepsOthers W w3:=KeepsOthers.of_grownBy (below_grown hb4 (Nat.le_refl _)) (fun j o ej=>by cases ej); have hb5:Below W2.heap.size W w3:=hb4.mono hBW.size; have hsz3:W2.heap.size≤w3.heap.size:=Nat.le_trans hBW.size hb4.size))
   exact⟨hko3.from _,hb5,⟨v,hv3,by rw[hx.out]; exact hrow3,trivial⟩,hBW.trans hb5⟩
 case done =>
  rintro D' ys W hD rfl ⟨⟨v,hv,hrow,-⟩,hBW⟩ hK;have hc:=hv.cell
  gi_wp2
  refine⟨by simp,.inl ⟨_,_,rfl,run_takeDeferred hK,?_⟩⟩;have key:∀ W':World,W'.ownsRow W2.heap.size 3 1 v (rootF D cp (upI D.q)).length ((rootF D cp (upI D.q)).map (Value.int .i64))→Own W' w.heap.size v (rootF D cp (upI D.q)):=fun W' hfin=>by
   exact⟨hfin.1,hfin.2.imp id fun⟨g',cap,cur,h1,h2,r⟩=>⟨g',cap,cur,h1,Nat.le_trans hle h2,r⟩⟩
  refine⟨.tuple #[v,.int .i64 0],by simp[results,Tryz.results169,go_sem],v,rfl,?_,?_⟩
  ·exact key _ (ownsRow_putObj hrow _ hK rfl)
  ·exact hW02.trans ((hBW.trans (belowK_b (w:=W2) (Nat.le_refl _) W D' _ _ (by simp at hD; omega) hK rfl rfl)).mono hle)
 case stop =>
  rintro D' c pre W _ _ h _;exact h.elim
end
end Go.Proofs.YtogfekjbpcfgmaaGreat
