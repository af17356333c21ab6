/- The program's New, with the blocks that it makes: none lies below. -/
import Derived.Test.YtogfekjbpcfgmaaGreatZtXRG
namespace Go.Proofs.YtogfekjbpcfgmaaGreat
open Go.RowKit Cw

def RdU (w:World)(L B:Nat)(A:Option Addr)(l:List Int):Prop :=
 0<l.length→∃ b off,A=some ⟨b,off,none⟩∧L≤b∧b<B∧∀ j,j<l.length→w.cell? ⟨b,off+j,none⟩=some (.int .i64 (l[j]?.getD 0))
section
variable {w w':World} {L L' B B':Nat} {A:Option Addr} {l:List Int}
theorem RdU.rd (h:RdU w L B A l):Rd w B A l:=fun hn=>by
 obtain⟨b,off,e,-,hb,hc⟩:=h hn;exact⟨b,off,e,hb,hc⟩
theorem RdU.of (h:Rd w B A l)(hA:∀ b,A=some b→L≤b.block):RdU w L B A l:=fun hn=>by
 obtain⟨b,off,e,hb,hc⟩:=h hn;exact⟨b,off,e,hA _ e,hb,hc⟩
theorem RdU.keepU (h:RdU w L B A l)(hk:∀ p:Addr,L≤p.block→p.block<B→w'.cell? p=w.cell? p):RdU w' L B A l:=fun hn=>by
 obtain⟨b,off,e,hl,hb,hc⟩:=h hn;exact⟨b,off,e,hl,hb,fun j hj=>(hk ⟨b,off+j,none⟩ hl hb).trans (hc j hj)⟩
theorem RdU.low (h:RdU w L B A l)(hL:L'≤L):RdU w L' B A l:=fun hn=>by
 obtain⟨b,off,e,hl,hb,hc⟩:=h hn;exact⟨b,off,e,by omega,hb,hc⟩
end
structure GFU (w:World) (L B g:Nat) (D:FD):Prop where
 lt:g<B
 le:L≤g
 c0:w.cell? ⟨g,0,none⟩=some (.int .i64 D.p)
 c1:w.cell? ⟨g,1,none⟩=some (.int .i64 D.m)
 md:∃ A c,w.cell? ⟨g,2,none⟩=some (.slice A D.mod.length c)∧RdU w L B A (modL D.toDesc)
 c3:w.cell? ⟨g,3,none⟩=some (.int .i64 D.q)
 ex:∃ A c,w.cell? ⟨g,4,none⟩=some (.slice A (D.q - 1) c)∧RdU w L B A (expl D)
 lo:∃ A c,w.cell? ⟨g,5,none⟩=some (.slice A D.q c)∧RdU w L B A (lgl D)
section
variable {w w':World} {L L' B B' g:Nat} {D:FD}
theorem GFU.gf (h:GFU w L B g D):GF w B g D where
 lt:=h.lt
 c0:=h.c0
 c1:=h.c1
 md:=by obtain⟨A,c,h1,h2⟩:=h.md; exact⟨A,c,h1,h2.rd⟩
 c3:=h.c3
 ex:=by obtain⟨A,c,h1,h2⟩:=h.ex; exact⟨A,c,h1,h2.rd⟩
 lo:=by obtain⟨A,c,h1,h2⟩:=h.lo; exact⟨A,c,h1,h2.rd⟩
theorem GFU.keepU (h:GFU w L B g D)(hk:∀ p:Addr,L≤p.block→p.block<B→w'.cell? p=w.cell? p):GFU w' L B g D where
 lt:=h.lt
 le:=h.le
 c0:=(hk _ h.le h.lt).trans h.c0
 c1:=(hk _ h.le h.lt).trans h.c1
 md:=by obtain⟨A,c,h1,h2⟩:=h.md; exact⟨A,c,(hk _ h.le h.lt).trans h1,h2.keepU hk⟩
 c3:=(hk _ h.le h.lt).trans h.c3
 ex:=by obtain⟨A,c,h1,h2⟩:=h.ex; exact⟨A,c,(hk _ h.le h.lt).trans h1,h2.keepU hk⟩
 lo:=by obtain⟨A,c,h1,h2⟩:=h.lo; exact⟨A,c,(hk _ h.le h.lt).trans h1,h2.keepU hk⟩
theorem GFU.low (h:GFU w L B g D)(hL:L'≤L):GFU w L' B g D where
 lt:=h.lt
 le:=by have:=h.le; omega
 c0:=h.c0
 c1:=h.c1
 md:=by obtain⟨A,c,h1,h2⟩:=h.md; exact⟨A,c,h1,h2.low hL⟩
 c3:=h.c3
 ex:=by obtain⟨A,c,h1,h2⟩:=h.ex; exact⟨A,c,h1,h2.low hL⟩
 lo:=by obtain⟨A,c,h1,h2⟩:=h.lo; exact⟨A,c,h1,h2.low hL⟩
end
def NewLPost (D:Desc)(w:World)(e:Ending)(w':World):Prop :=
 Below w.heap.size w w'∧((∃ g,∃ F:FD,F.toDesc=D∧e=.returned (.tuple #[.pointer (some ⟨g,0,none⟩),.int .i64 0])∧GFU w' w.heap.size w'.heap.size g F) ∨
  ((∀ u:R D,¬ IsGen u)∧e=.returned (.tuple #[.pointer none,.int .i64 1])))
def NewStL (D:Desc)(w:World)(v:Value)(s6:Value)(wx:World):Prop :=
 ∃ g gl A c,s6=.pointer (some ⟨g,0,none⟩)∧w.heap.size≤g∧w.heap.size≤gl∧g<wx.heap.size∧g≠gl∧IB wx gl (List.replicate D.q 0)∧Below w.heap.size w wx ∧
  wx.heap[g]?=some (.cells #[.int .i64 D.p,.int .i64 D.m,.slice A D.mod.length c,.int .i64 D.q,v,.slice (some ⟨gl,0,none⟩) D.q D.q] 127 (0,0)) ∧
  Rd wx wx.heap.size A (modL D)∧(∀ b,A=some b→b.block≠gl)∧(∀ b,A=some b→w.heap.size≤b.block)
theorem NewStL.of {D:Desc} {w2 w4:World} {A3:Option Addr} {c3 gl H:Nat} {v:Value} (hi:IB w4 gl (List.replicate D.q 0))(hr:Rd w4 w4.heap.size A3 (modL D))(hne:∀ b,A3=some b→b.block≠gl)
  (hb:Below w2.heap.size w2 w4) (hgl:w2.heap.size≤gl) (hH:w4.heap.size=H) (hlo:∀ b,A3=some b→w2.heap.size≤b.block) :
  NewStL D w2 v (.pointer (some ⟨H,0,none⟩)) (w4.alloc (.cells #[.int .i64 D.p,.int .i64 D.m,.slice A3 D.mod.length c3,.int .i64 D.q,v,.slice (some ⟨gl,0,none⟩) D.q D.q] 127)):=by
 subst hH;have hl:=hi.lt;exact⟨w4.heap.size,gl,A3,c3,rfl,hb.size,hgl,by simp,by omega,hi.alloc _,hb.alloc hb.size _,heap_alloc_new w4 _,(hr.alloc (Nat.le_refl _) _).more (by simp),hne,hlo⟩

set_option maxRecDepth 100000 in
set_option maxHeartbeats 2000000 in
theorem New_validL (D:Desc)(A:Option Addr)(c:Nat)(w:World)(hr:Rd w w.heap.size A (modL D)) :
    Calls Tryz.prog 30 #[.agg #[.int .i64 D.p,.int .i64 D.m,.slice A D.mod.length c]] w (NewLPost D w):=by
  have hq2:=D.q2; have hq3:=D.q256; have hp1:=D.p256; have hp2:=D.m8;have hml:D.mod.length≤8:=by have:=D.hlen; rw[this]; split <;> omega
  have hbx0:=Bx.new w D A D.mod.length c 24;have hS:=fun w hr=>Lib.hid (shape_any D.p D.m (modL D) A c w (by omega) (by omega) (by rw[modL_length]; simp only[maxLen]; omega) hr)
  rw[modL_length,validB_true ⟨D,rfl,rfl,rfl⟩]at hS;have hO:=fun w=>Lib.hid (order_any D.p D.m w (by omega) (by omega))
  rw[qOf_D]at hO;have hG:=fun w hr=>Lib.hid (generator_any D A c w hr)
  have hmk:=mk_ints D.q (by omega);have hnil:=fun (W:World) (a:Option Addr) (n c:Nat)=>Lib.run_eql_slice_nil (P:=Tryz.prog) W 22 3 a n c 0 0 Tryz.underlying22
  have hr0:=hr.alloc (Nat.le_refl _) (.cells #[.int .i64 D.p,.int .i64 D.m,.slice A D.mod.length c] 24);go_enter Tryz.func30,Tryz.ntmps30;go_wp2_with (fail);refine (hS _ (hr0.more (by simp))).out.mono ?_;rintro e w1 ⟨rfl,hb1⟩;have hs1:=hb1.size;simp only[World.size_alloc]at hs1;have hbx1:=hbx0.below hb1 (by simp);have hbw1:Below w.heap.size w w1:=((Below.refl _ _).alloc (Nat.le_refl _) _).trans (hb1.mono (by simp));have kc:=hbx1;obtain⟨kc0,kc1,kc2⟩:=kc;go_wp2_with (go_at_call 87; refine (hO _).out.mono ?_; rintro e w9 ⟨rfl,rfl⟩);refine (hG _ ((hr.below hbw1).more (by omega))).out.mono ?_;rintro e w2 ⟨v,rfl,hb2,hcase⟩;have hs2:=hb2.size;have hbx2:=hbx1.below hb2 (by omega);have hbw2:=hbw1.trans (hb2.mono (by omega));clear kc0 kc1 kc2;have kc:=hbx2;obtain⟨kc0,kc1,kc2⟩:=kc;rcases hcase with ⟨u,hu,hown⟩ | ⟨hno,rfl⟩
  · obtain⟨Av,cv,rfl,hcv,hrv,hAv⟩:=hown.form;have hll:(pwl u (D.q - 1)).length=D.q - 1:=lst_length _ _;rw[hll]at hcv ⊢;obtain⟨be,oe,rfl,hbe,hce⟩:=hrv (by rw[hll]; omega);rw[hll]at hce;have hbeL:w.heap.size≤be:=by have:=(hAv _ rfl).1; dsimp only at this; omega
    have hr2:=(hr.below hbw2).more (show w.heap.size≤w2.heap.size by omega);have hwlt:w.heap.size<w2.heap.size:=by omega
    obtain⟨W,hW⟩:∃ W,W=w2.heap.size:=⟨_,rfl⟩;replace hce:=Lib.hid hce;replace hcv:=Lib.hid hcv;replace hown:=Lib.hid hown;replace hll:=Lib.hid hll;clear hAv hS hO hG hbx0 hbx1 hb1 hb2 hr0 hrv;go_wp2_with (fail);go_upto_region 7 with (fail)
    go_cut [6] (fun s6 wx=>NewStL D w2 (.slice (some ⟨be,oe,none⟩) (D.q - 1) cv) s6 wx)
    case first =>
      have o1:Hid (Own (w2.alloc (.cells #[] 3)).drew w2.heap.size (.slice (some ⟨w2.heap.size,0,none⟩) 0 0) []):=own_empty (heap_alloc_new w2 _) (Nat.le_refl _);have o2:Hid (Own ((w2.alloc (.cells #[] 3)).alloc (.cells (Array.replicate D.q (Value.int .i64 0)) 3)).drew w2.heap.size (.slice (some ⟨w2.heap.size,0,none⟩) 0 0) []):=o1.out.alloc _;have o3:Hid (Own ((w2.alloc (.cells (Array.replicate D.q (Value.int .i64 0)) 3)).alloc (.cells #[] 3)).drew w2.heap.size (.slice (some ⟨w2.heap.size+1,0,none⟩) 0 0) []) :=
        own_empty (by have:=heap_alloc_new (w2.alloc (.cells (Array.replicate D.q (Value.int .i64 0)) 3)) (.cells #[] 3); rw[World.size_alloc]at this; exact this) (by omega)
      have r1:Hid (Rd (w2.alloc (.cells #[] 3)).drew w2.heap.size A (modL D)):=hr2.alloc (Nat.le_refl _) _;have r2:Hid (Rd ((w2.alloc (.cells #[] 3)).alloc (.cells (Array.replicate D.q (Value.int .i64 0)) 3)).drew w2.heap.size A (modL D)):=r1.out.alloc (by simp) _;have r3:Hid (Rd ((w2.alloc (.cells (Array.replicate D.q (Value.int .i64 0)) 3)).alloc (.cells #[] 3)).drew w2.heap.size A (modL D)):=(hr2.alloc (Nat.le_refl _) _).alloc (by simp) _;have hmn:D.mod.length=(modL D).length:=(modL_length D).symm;have hmn':Hid ((([]:List Int) ++ modL D).length=D.mod.length):=by unfold Hid; rw[List.nil_append,modL_length]
      have hm8:([]:List Int).length+(modL D).length≤1000000000:=by rw[modL_length]; simp; omega
      have b1:w2.heap.size≤(w2.alloc (.cells #[] 3)).drew.heap.size:=by simp
      have b2:w2.heap.size≤((w2.alloc (.cells #[] 3)).alloc (.cells (Array.replicate D.q (Value.int .i64 0)) 3)).drew.heap.size:=by simp; omega
      have b3:w2.heap.size≤((w2.alloc (.cells (Array.replicate D.q (Value.int .i64 0)) 3)).alloc (.cells #[] 3)).drew.heap.size:=by simp; omega
      replace hmn:=Lib.hid hmn;have kb:=Lib.hid hbx2;have x1:=Lib.hid (hbx2.alloc hwlt (.cells #[] 3));have x2:=Lib.hid (hbx2.alloc hwlt (.cells (Array.replicate D.q (Value.int .i64 0)) 3));have x3:=Lib.hid (x1.out.alloc (by simp; omega) (.cells (Array.replicate D.q (Value.int .i64 0)) 3));have x4:=Lib.hid (x2.out.alloc (by simp; omega) (.cells #[] 3));clear hbx2;go_region_held3 (fun w'=>w'.cell? ⟨w.heap.size,0,none⟩=some (.int .i64 D.p)∧w'.cell? ⟨w.heap.size,1,none⟩=some (.int .i64 D.m)∧w'.cell? ⟨w.heap.size,2,none⟩=some (.slice A D.mod.length c))
        (first | exact kb.out | exact x1.out | exact x2.out | exact x3.out | exact x4.out | exact y.out | exact y.out.alloc hwlt3 _ | exact (y.out.alloc hwlt3 _).alloc (by simp; omega) _)
        (first
          | (refine step_appN rfl (.tmp 26) (.tmp 28) rfl w2.heap.size _ [] w2.heap.size A c (modL D) o1.out r1.out rfl rfl hmn.out hm8 b1 ?_; intro v3 w3 hown3 hb3 hg3 hv3; obtain⟨A3,c3,rfl,hc3,hr3,hA3⟩:=hown3.form; rw[hmn'.out]; have y:=Lib.hid (Bx.below (W:=(w2.alloc (.cells #[] 3)).drew) x1.out hb3 hwlt); have hwlt3:w.heap.size<w3.heap.size:=Nat.lt_of_lt_of_le hwlt (Nat.le_trans b1 hb3.size))
          | (refine step_appN rfl (.tmp 26) (.tmp 28) rfl w2.heap.size _ [] w2.heap.size A c (modL D) o2.out r2.out rfl rfl hmn.out hm8 b2 ?_; intro v3 w3 hown3 hb3 hg3 hv3; obtain⟨A3,c3,rfl,hc3,hr3,hA3⟩:=hown3.form; rw[hmn'.out]; have y:=Lib.hid (Bx.below (W:=((w2.alloc (.cells #[] 3)).alloc (.cells (Array.replicate D.q (Value.int .i64 0)) 3)).drew) x3.out hb3 hwlt); have hwlt3:w.heap.size<w3.heap.size:=Nat.lt_of_lt_of_le hwlt (Nat.le_trans b2 hb3.size))
          | (refine step_appN rfl (.tmp 26) (.tmp 28) rfl w2.heap.size _ [] w2.heap.size A c (modL D) o3.out r3.out rfl rfl hmn.out hm8 b3 ?_; intro v3 w3 hown3 hb3 hg3 hv3; obtain⟨A3,c3,rfl,hc3,hr3,hA3⟩:=hown3.form; rw[hmn'.out]; have y:=Lib.hid (Bx.below (W:=((w2.alloc (.cells (Array.replicate D.q (Value.int .i64 0)) 3)).alloc (.cells #[] 3)).drew) x4.out hb3 hwlt); have hwlt3:w.heap.size<w3.heap.size:=Nat.lt_of_lt_of_le hwlt (Nat.le_trans b3 hb3.size)))
      all_goals go_wp2_with (fail)
      all_goals go_meet
      all_goals rw[List.nil_append]at hr3
      · have hx:Below w2.heap.size w2 (w2.alloc (.cells #[] 3)).drew:=((Below.refl _ _).alloc (Nat.le_refl _) _).drew;have h4:Below w2.heap.size w2 w3:=hx.trans hb3;exact NewStL.of (w4:=w3.alloc (.cells (Array.replicate D.q (Value.int .i64 0)) 3)) (IB.newz w3 D.q) ((hr3.alloc (Nat.le_refl _) _).more (by simp)) (fun b hb=>by have:=(hA3 b hb).2; omega) (h4.alloc h4.size _) h4.size (by simp) (fun b hb=>(hA3 b hb).1)
      · have hx:Below w2.heap.size w2 ((w2.alloc (.cells #[] 3)).alloc (.cells (Array.replicate D.q (Value.int .i64 0)) 3)).drew:=(((Below.refl _ _).alloc (Nat.le_refl _) _).alloc (by simp) _).drew;have h4:Below w2.heap.size w2 w3:=hx.trans hb3;have hz:IB ((w2.alloc (.cells #[] 3)).alloc (.cells (Array.replicate D.q (Value.int .i64 0)) 3)).drew (w2.heap.size+1) (List.replicate D.q 0):=by
          have:=IB.newz (w2.alloc (.cells #[] 3)) D.q; rw[World.size_alloc]at this; exact this
        refine NewStL.of (w4:=w3) (gl:=w2.heap.size+1) (hz.kept hg3 (by simp[Value.ownBlock])) hr3 (fun b hb=>?_) h4 (Nat.le_succ _) rfl (fun b hb=>(hA3 b hb).1);subst hb;rcases hv3 with h5 | h5
        · have:b.block=w2.heap.size:=by simpa [Value.ownBlock] using h5
          omega
        · have:=h5 b.block rfl;simp at this; omega
      · have hx:Below w2.heap.size w2 ((w2.alloc (.cells (Array.replicate D.q (Value.int .i64 0)) 3)).alloc (.cells #[] 3)).drew:=(((Below.refl _ _).alloc (Nat.le_refl _) _).alloc (by simp) _).drew;have h4:Below w2.heap.size w2 w3:=hx.trans hb3;have hz:IB ((w2.alloc (.cells (Array.replicate D.q (Value.int .i64 0)) 3)).alloc (.cells #[] 3)).drew w2.heap.size (List.replicate D.q 0):=(IB.newz w2 D.q).alloc _;refine NewStL.of (w4:=w3) (gl:=w2.heap.size) (hz.kept hg3 (by simp[Value.ownBlock])) hr3 (fun b hb=>?_) h4 (Nat.le_refl _) rfl (fun b hb=>(hA3 b hb).1);subst hb;rcases hv3 with h5 | h5
        · have:b.block=w2.heap.size+1:=by simpa [Value.ownBlock] using h5
          omega
        · have:=h5 b.block rfl;simp at this; omega
    case rest =>
      obtain⟨g,gl,A3,c3,rfl,hg,hgl,hglt,hne,hib,hb3,hhp,hr3,hA3,hA3L⟩:=hcut;have hq1:D.q - 1≤255:=by omega
      obtain⟨F,hFD,hFg⟩:∃ F:FD,∃ h:F.toDesc=D,F.g=h ▸ u:=⟨mkFD D u hu,rfl,rfl⟩;subst hFD;replace hFg:F.g=u:=hFg;subst hFg;replace hhp:=Lib.hid hhp;have hbcut:=hb3;clear hu hmk hnil hbx2 hr2 kc0 kc1 kc2;go_wp2_with (fail);go_loopw [39,7,8] (fun i _ _ wr=>∃ k:Nat,k≤F.q - 1∧i=.int .i64 k∧IB wr gl (logP F k)∧Hid (wr.heap[g]?=some (.cells #[.int .i64 F.p,.int .i64 F.m,.slice A3 F.mod.length c3,.int .i64 F.q,.slice (some ⟨be,oe,none⟩) (F.q - 1) cv,.slice (some ⟨gl,0,none⟩) F.q F.q] 127 (0,0))) ∧
         Below w2.heap.size w2 wr∧Rd wr wr.heap.size A3 (modL F.toDesc)∧g<wr.heap.size) (fun i _ _ _=>F.q - 1 - (intOf i).toNat)
      case atStart=>exact⟨0,by omega,rfl,by rw[logP_zero]; exact hib,hhp,hb3,hr3,hglt⟩
      case round =>
        clear hhp hib hb3 hr3;obtain⟨k,hk,rfl,hib,hhp,hb3,hr3,hglt2⟩:=hrel;by_cases hlt:k<F.q - 1
        · have hce2:=(hb3.cell (p:=⟨be,oe+k,none⟩) hbe).trans (hce.out k hlt);rw[show (pwl F.g (F.q - 1))[k]?.getD 0=ci (pw F.g k) from lst_get _ hlt]at hce2;have hy0:=ci_nonneg (pw F.g k);have hy1:=ci_lt (pw F.g k);obtain⟨y,hy⟩:=Int.eq_ofNat_of_zero_le hy0;have hyr:y=rcode (pw F.g k):=by unfold ci at hy; omega
          have hyq:y<F.q:=by omega
          rw[hy]at hce2;have hc:=hib.cell (i:=y) (by unfold logP; rw[lst_length]; exact hyq);have hf:=hib.frozen y;have hc5:wr.cell? ⟨g,5,none⟩=some (.slice (some ⟨gl,0,none⟩) F.q F.q):=by rw[cell_of_row wr g 5 _ _ _ hhp.out]; rfl
          have hset:=hib.set_ y (k:Int);rw[hyr,logP_set F hlt,←hyr]at hset;replace hset:=Lib.hid hset;clear hy hyr hy0 hy1 hib;have hk0:(k:Int)<((F.q - 1:Nat):Int):=by omega
          go_wp2_with (fail);go_roundw
          case rel=>exact⟨k+1,by omega,by go_num,hset.out,(Below.heap_setCell _ _ _ _ hne).trans hhp.out,hb3.setCell (p:=⟨gl,y,none⟩) hgl _,fun hn=>by
            obtain⟨b,off,e,hbl,hcell⟩:=hr3 hn;exact⟨b,off,e,by simpa [World.setCell] using hbl,fun j hj=>(World.cell?_setCell_other _ _ _ _ (fun e2=>by
              have h8:=hA3 _ e;have h9:=congrArg Addr.block e2;exact h8 (by first | exact h9 | exact h9.symm))).trans (hcell j hj)⟩,by simpa [World.setCell] using hglt2⟩
          case measure=>simp[intOf]; omega
        · obtain rfl:k=F.q - 1:=by omega
          rw[logP_full]at hib;go_wp2_with (fail);go_ret2;have hcell:=fun i=>cell_of_row wr g i _ _ _ hhp.out
          refine⟨hbw2.trans (hb3.mono (Nat.le_of_lt hwlt)),.inl ⟨g,F,rfl,rfl,hglt2,by omega,?_,?_,⟨A3,c3,?_,RdU.of hr3 fun b e=>by have:=hA3L b e; omega⟩,?_,⟨some ⟨be,oe,none⟩,cv,?_,fun hn=>⟨be,oe,rfl,hbeL,by have:=hb3.size; omega,fun j hj=>?_⟩⟩,⟨some ⟨gl,0,none⟩,F.q,?_,RdU.of hib.rd fun b e=>by cases e; exact Nat.le_trans (Nat.le_of_lt hwlt) hgl⟩⟩⟩
          · rw[hcell]; rfl
          · rw[hcell]; rfl
          · rw[hcell]; rfl
          · rw[hcell]; rfl
          · rw[hcell]; rfl
          · have hj':j<F.q - 1:=by rw[show (expl F).length=F.q - 1 from lst_length _ _]at hj; exact hj
            exact (hb3.cell (p:=⟨be,oe+j,none⟩) hbe).trans (hce.out j hj')
          · rw[hcell]; rfl
  · go_wp2_with (fail);go_ret2;exact⟨hbw2,.inr ⟨hno,rfl⟩⟩

theorem New_low (D:Desc)(A:Option Addr)(c:Nat)(w:World)(hr:Rd w w.heap.size A (modL D))(hg:Good D.p D.m (modL D)) :
  Calls Tryz.prog 30 #[.agg #[.int .i64 D.p,.int .i64 D.m,.slice A D.mod.length c]] w fun e w'=>∃ g,∃ F:FD,F.toDesc=D∧e=.returned (.tuple #[.pointer (some ⟨g,0,none⟩),.int .i64 0])∧GFU w' w.heap.size w'.heap.size g F∧Below w.heap.size w w':=by
 refine (New_validL D A c w hr).mono ?_;rintro e w' ⟨hb,⟨g,F,h1,h2,h3⟩ | ⟨hno,-⟩⟩
 ·exact⟨g,F,h1,h2,h3,hb⟩
 ·obtain⟨u,hu⟩:=gen_of_good hg;exact absurd hu (hno u)
end Go.Proofs.YtogfekjbpcfgmaaGreat
