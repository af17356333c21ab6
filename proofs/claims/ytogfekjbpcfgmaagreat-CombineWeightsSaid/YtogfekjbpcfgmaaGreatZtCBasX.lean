/- Layer 7 of the program: system. Layer 7 of the program: basis, IsBasis, Coordinates, Dual. Layer 7 of the program: IsBasis, Coordinates, Dual. -/
import Derived.Test.YtogfekjbpcfgmaaGreatZtCSolW
import Derived.Test.YtogfekjbpcfgmaaGreatZtCTowA
import Derived.Test.YtogfekjbpcfgmaaGreatZtCPoR
import Derived.Test.YtogfekjbpcfgmaaGreatZtCTk
namespace Go.Proofs.YtogfekjbpcfgmaaGreat
section
open Go.RowKit Cw
attribute [local go_sem] Oper.semAt_some

section
variable {D:Desc} {w w':World} {L g n m:Nat} {q q':Option Nat} {i b c:Nat} {f:Nat→R D} {M:Nat→Nat→R D}
theorem MP.congr {M':Nat→Nat→R D} (h:MP w L g n m q M)(he:∀ i j,i<n→j<m→M i j=M' i j):MP w L g n m q M':=by
 obtain⟨hgl,B,C,h3,h4⟩:=h;exact⟨hgl,B,C,fun i hi=>⟨(h3 i hi).hd,(h3 i hi).fz,(h3 i hi).lt,(h3 i hi).ne,(h3 i hi).nq,(h3 i hi).lo,(h3 i hi).c1,(h3 i hi).c2,fun j hj=>by rw[←he i j hi hj]; exact (h3 i hi).cells j hj⟩,h4⟩
theorem MP.free (h:MP w L g n m q M):MP w L g n m none M:=by
 obtain⟨hgl,B,C,h3,h4⟩:=h;exact⟨hgl,B,C,fun i hi=>(h3 i hi).to (by simp),h4⟩
theorem MP.push {w3:World} {k:Nat} (h:MP w L g k m none M)(hsz:g<w3.heap.size)(hkeep:∀ i,i<k→∀ b c (f:Nat→R D),RowAt w L g m none i b c f→RowAt w3 L g m none i b c f)(hnew:RowAt w3 L g m none k b c (M k))(hb:w.heap.size≤b):MP w3 L g (k+1) m none M:=by
 obtain⟨hgl,B,C,h3,h4⟩:=h;refine⟨hsz,fun t=>if t=k then b else B t,fun t=>if t=k then c else C t,fun t ht=>?_,fun s t hs ht e=>?_⟩
 ·by_cases e:t=k
  ·subst e; simp only[if_true]; exact hnew
  ·simp only[if_neg e]; exact hkeep t (by omega) _ _ _ (h3 t (by omega))
 ·by_cases e1:s=k <;> by_cases e2:t=k
  ·omega
  ·simp only[e1,e2,if_true,if_false]at e; have:=(h3 t (by omega)).lt; omega
  ·simp only[e1,e2,if_true,if_false]at e; have:=(h3 s (by omega)).lt; omega
  ·simp only[e1,e2,if_false]at e; exact h4 s t (by omega) (by omega) e
end

theorem ite_iff {α:Type} {P Q:Prop} [Decidable P] [Decidable Q] (h:P↔Q){x y:α}:(if P then x else y)=if Q then x else y:=by
 by_cases e:P
 ·rw[if_pos e,if_pos (h.1 e)]
 ·rw[if_neg e,if_neg (fun e2=>e (h.2 e2))]
noncomputable def midA {F:FD} (d n:Nat)(u b:Nat→R F.toDesc)(j i:Nat):Nat→Nat→R F.toDesc:=fun r t=>if t<j∨(t=j∧r<i) then frob (d*r) (u t) else if t<n then 0 else b r
theorem midA_full {F:FD} (d n:Nat)(u b:Nat→R F.toDesc):midA d n u b n 0=conA d n u b:=funext fun r=>funext fun t=>by
 unfold midA conA;by_cases h:t<n
 ·rw[if_pos (.inl h),if_pos h]
 ·rw[if_neg (fun e=>e.elim h (fun e=>absurd e.2 (Nat.not_lt_zero _))),if_neg h,if_neg h]
theorem midA_next {F:FD} (d n:Nat)(u b:Nat→R F.toDesc)(j:Nat){r:Nat} (hr:r<n)(t:Nat):midA d n u b j n r t=midA d n u b (j+1) 0 r t:=by
 unfold midA;exact ite_iff (by omega)
theorem midA_set {F:FD} (d n:Nat)(u b:Nat→R F.toDesc)(j i:Nat):setR (midA d n u b j i) i (fun t=>if t=j then frob (d*i) (u j) else midA d n u b j i i t)=midA d n u b j (i+1):=funext fun r=>funext fun t=>by
 unfold setR;by_cases e:r=i
 ·rw[if_pos e];by_cases e2:t=j
  ·rw[if_pos e2]; unfold midA; rw[if_pos (.inr ⟨e2,by omega⟩),e,e2]
  ·rw[if_neg e2,e]; unfold midA;exact ite_iff (by omega)
 ·rw[if_neg e];unfold midA;exact ite_iff (by omega)

set_option maxRecDepth 100000 in
set_option maxHeartbeats 8000000 in
theorem tSystem_any (F:FD)(n m d:Nat)(hmn:m=n+1)(hd1:1≤d)(hd8:d≤8)(hnd:F.m / d=n)(l:List Int)(hl:l.length=n)(b:Nat→R F.toDesc)(Al Ab:Option Addr)(cl cb gf:Nat)(w:World)(hg:GF w w.heap.size gf F)(hrl:Rd w w.heap.size Al l)(hrb:Rd w w.heap.size Ab (rowL F.toDesc n b)) :
  Calls Tryz.prog 167 #[.pointer (some ⟨gf,0,none⟩),.slice Al n cl,.int .i64 d,.slice Ab n cb] w fun e w'=>∃ g,e=.returned (.slice (some ⟨g,0,none⟩) n n)∧w.heap.size≤g∧MP w' w.heap.size g n m none (conA d n (fun j=>eli F.toDesc (l[j]?.getD 0)) b)∧Below w.heap.size w w':=by
 have hn8:n≤8:=by rw[←hnd]; exact Nat.le_trans (Nat.div_le_self _ _) F.m8
 have hE:=fun x W h=>Lib.hid (teach_any F x d gf W h hd1 hd8)
 rw[hnd]at hE;replace hE:=fun x W h=>(hE x W h)
 have hmr:=mk_rows n (by omega);have hmi:=mk_ints m (by omega);rw[show (m:Int)=(n:Int)+1 by omega]at hmi;have hnm:n<m:=by omega
 have hnm2:(n:Int)<(m:Int):=by omega
 have hm9:m≤9:=by omega
 obtain⟨u,hu⟩:∃ u:Nat→R F.toDesc,u=fun j=>eli F.toDesc (l[j]?.getD 0):=⟨_,rfl⟩
 rw[←hu];obtain⟨g,hgv⟩:∃ g,g=w.heap.size:=⟨_,rfl⟩;obtain⟨Y,hY⟩:∃ Y,Y=w.alloc (.cells (Array.replicate n (Value.slice none 0 0)) 22):=⟨_,rfl⟩;have hbY:Below w.heap.size w Y:=by rw[hY]; exact (Below.refl _ _).alloc (Nat.le_refl _) _
 have hgY:g<Y.heap.size:=by rw[hY,hgv]; simp
 have hhd:∀ k,k<n→∃ v,Y.cell? ⟨g,k,none⟩=some v∧Y.frozen? ⟨g,k,none⟩=false:=fun k hk=>by
  rw[hY,hgv];exact⟨.slice none 0 0,by simp[go_sem,hk],by simp[go_sem]⟩
 have hm0:Hid (MP Y w.heap.size g 0 m none (midA d n u b 0 0)):=⟨hgY,fun _=>0,fun _=>0,fun i hi=>absurd hi (Nat.not_lt_zero _),fun i k hi=>absurd hi (Nat.not_lt_zero _)⟩;have hgw:w.heap.size≤g:=Nat.le_of_eq hgv.symm;replace hhd:=Lib.hid hhd;replace hmn:=Lib.hid hmn;replace hnd:=Lib.hid hnd;replace hu:=Lib.hid hu;replace hl:=Lib.hid hl;replace hY:=Lib.hid hY;go_enter Tryz.func167,Tryz.ntmps167;go_wp2_with (fail);rw[←hY.out];simp only[←hgv];have hgv2:=Lib.hid hgv;clear hgv;go_loopw [20] (fun iS wr=>∃ i:Nat,i≤n∧iS=.int .i64 i∧Hid (MP wr w.heap.size g i m none (midA d n u b 0 0))∧Hid (∀ k,i≤k→k<n→∃ v,wr.cell? ⟨g,k,none⟩=some v∧wr.frozen? ⟨g,k,none⟩=false)∧Below w.heap.size w wr) (fun iS _=>n - (intOf iS).toNat)
 case atStart=>exact⟨0,by omega,rfl,hm0,fun k _ hk=>hhd.out k hk,hbY⟩
 case round =>
  clear hm0 hhd hbY hgY hY;obtain⟨w1,rfl⟩:∃ w1:World,w1=wr:=⟨_,rfl⟩;obtain⟨i,hi,rfl,hmp,hhd,hbw⟩:=hrel;have hg1:=hmp.out.1;have hs1:=hbw.size;by_cases hin:i<n
  ·have i0:(0:Int)≤(i:Int):=by omega
   have i1:(i:Int)<(n:Int):=by omega
   have n0:(0:Int)≤(n:Int):=by omega
   obtain⟨v,hxv,hfv⟩:=hhd.out i (Nat.le_refl _) hin;obtain⟨ob,oo,rfl,hob,hcb⟩:=hrb.at_ (k:=i) (by rw[rowL_length]; exact hin);rw[rowL_get _ _ hin]at hcb;obtain⟨y,hy⟩:∃ y,y=ci (b i):=⟨_,rfl⟩;rw[←hy]at hcb;obtain⟨nb,hnb⟩:∃ nb,nb=w1.heap.size:=⟨_,rfl⟩;obtain⟨Y1,hY1⟩:∃ Y1,Y1=w1.alloc (.cells (Array.replicate m (Value.int .i64 0)) 3):=⟨_,rfl⟩;have hbY1:Below w1.heap.size w1 Y1:=by rw[hY1]; exact (Below.refl _ _).alloc (Nat.le_refl _) _
   have hib1:IB Y1 nb (List.replicate m 0):=by rw[hY1,hnb]; exact IB.newz w1 m
   have hxv1:=(hbY1.cell (p:=⟨g,i,none⟩) hg1).trans hxv;have hfv1:=(hbY1.frozen (p:=⟨g,i,none⟩) hg1).trans hfv;have hgnb:g≠nb:=by omega
   obtain⟨W2,hW2⟩:∃ W2,W2=Y1.setCell ⟨g,i,none⟩ (.slice (some ⟨nb,0,none⟩) m m):=⟨_,rfl⟩;have hx2:W2.cell? ⟨g,i,none⟩=some (.slice (some ⟨nb,0,none⟩) m m):=by rw[hW2]; exact World.cell?_setCell_same _ _ _ hxv1
   have hobg:g≠ob:=by omega
   have hcb2:W2.cell? ⟨ob,oo+i,none⟩=some (.int .i64 y):=by
    rw[hW2];exact (World.cell?_setCell_far _ _ _ _ hobg).trans ((hbY1.cell (p:=⟨ob,oo+i,none⟩) (Nat.lt_of_lt_of_le hob hs1)).trans ((hbw.cell (p:=⟨ob,oo+i,none⟩) hob).trans hcb))
   have hib2:IB W2 nb (List.replicate m 0):=by rw[hW2]; exact hib1.far (p:=⟨g,i,none⟩) (fun e=>hgnb e.symm) _
   have hn2:=hib2.cell (i:=n) (by simpa using hnm);have hfn2:=hib2.frozen n;have hobn:nb≠ob:=by omega
   obtain⟨W3,hW3⟩:∃ W3,W3=(W2.setCell ⟨nb,n,none⟩ (.int .i64 y)).drew:=⟨_,rfl⟩;have hsz3:W3.heap.size=Y1.heap.size:=by rw[hW3,hW2]; simp[World.setCell,World.drew]
   have hh2:=Lib.hid (show W2.cell? ⟨g,i,none⟩=some (.slice (some ⟨nb,0,none⟩) m m)∧W2.cell? ⟨ob,oo+i,none⟩=some (.int .i64 y) from ⟨hx2,hcb2⟩);have hh3:Hid (W3.cell? ⟨g,i,none⟩=some (.slice (some ⟨nb,0,none⟩) m m)∧W3.cell? ⟨ob,oo+i,none⟩=some (.int .i64 y)):=by
    rw[hW3];exact⟨(World.cell?_setCell_far _ _ _ _ (fun e=>hgnb e.symm)).trans hx2,(World.cell?_setCell_far _ _ _ _ hobn).trans hcb2⟩
   have hmp3:Hid (MP W3 w.heap.size g (i+1) m none (midA d n u b 0 0)):=by
    refine hmp.out.push (b:=nb) (c:=m) (by rw[hsz3]; exact Nat.lt_of_lt_of_le hg1 hbY1.size) (fun k hk b' c' f' hr=>?_) ?_ (Nat.le_of_eq hnb.symm)
    ·have h1:=hr.grown hg1 (below_grown hbY1 (Nat.le_refl _)) (q':=none) (by simp) (by simp) (by simp);have h2:=h1.other (i:=i) (v:=.slice (some ⟨nb,0,none⟩) m m) (by omega);rw[←hW2]at h2;have h3:=h2.grown (q':=none) (row:=some nb) (by rw[hW2]; simp only[World.setCell,Array.size_modify]; exact Nat.lt_of_lt_of_le hg1 hbY1.size) (grown_set W2 ⟨nb,n,none⟩ (.int .i64 y)) (by intro e; injection e with e; exact hgnb e.symm) (by intro e; injection e with e; have:=hr.lt; omega) (by simp);rw[hW3];exact h3.drew
    ·have hib3:IB W3 nb ((List.replicate m 0).set n y):=by rw[hW3]; exact hib2.set_ n y
     refine⟨hh3.out.1,?_,hib3.lt,fun e=>hgnb e.symm,by simp,by omega,Nat.le_refl _,by unfold maxLen; omega,fun t ht=>⟨?_,hib3.frozen t⟩⟩
     ·rw[hW3,hW2]; simp[go_sem,hfv1]
     ·have h4:=hib3.cell (i:=t) (by simp; exact ht);rw[h4]
      congr 2
      unfold midA;rw[if_neg (fun e=>e.elim (Nat.not_lt_zero _) (fun e=>Nat.not_lt_zero _ e.2))];by_cases e:t<n
      ·rw[if_pos e,ci_zero,List.getElem?_set_ne (by omega),List.getElem?_replicate_of_lt ht]; rfl
      ·obtain rfl:t=n:=by have:=hmn.out; omega
       rw[if_neg e,List.getElem?_set_self (by simpa using hnm),hy]; rfl
   have hhd3:Hid (∀ k,i+1≤k→k<n→∃ v,W3.cell? ⟨g,k,none⟩=some v∧W3.frozen? ⟨g,k,none⟩=false):=fun k h1 h2=>by
    obtain⟨v',h3,h4⟩:=hhd.out k (by omega) h2;have h3':=(hbY1.cell (p:=⟨g,k,none⟩) hg1).trans h3;have h4':=(hbY1.frozen (p:=⟨g,k,none⟩) hg1).trans h4;refine⟨v',?_,by rw[hW3,hW2]; simp[go_sem,h4']⟩;rw[hW3,hW2];exact (World.cell?_setCell_far _ _ _ _ (fun e=>hgnb e.symm)).trans ((hdr_other (by omega)).trans h3')
   have hb3:Hid (Below w.heap.size w W3):=by
    rw[hW3,hW2];exact (((hbw.trans (hbY1.mono hs1)).setCell (p:=⟨g,i,none⟩) hgw _).setCell (p:=⟨nb,n,none⟩) (by show w.heap.size≤nb; omega) _).drew
   have hxvA:=hxv1;have hfvA:=hfv1;rw[hY1]at hxvA hfvA;clear hxv1 hfv1;replace hY1:=Lib.hid hY1;replace hW2:=Lib.hid hW2;replace hW3:=Lib.hid hW3;replace hsz3:=Lib.hid hsz3;replace hy:=Lib.hid hy;clear hxv hfv hib1 hib2 hcb hx2 hcb2 hmp hhd hbY1;go_wp2_with (fail);rw[←World.setCell_alloc_past _ _ _ _ hg1,←hY1.out];simp only[←hnb];rw[←hW2.out];replace hnb:=Lib.hid hnb;clear hxvA hfvA;refine wp_region_held_drew (S:=fun w'=>w'.cell? ⟨g,i,none⟩=some (.slice (some ⟨nb,0,none⟩) m m)∧w'.cell? ⟨ob,oo+i,none⟩=some (.int .i64 y)) (by kernel_rfl) (by (try dsimp only); exact hh2.out) (fun hHeld=>?_);refine tk 0 ?_; try simp only[pS]
   refine tk 1 ?_; try simp only[pS]
   refine tk 2 ?_; try simp only[pS]
   refine tk 3 ?_; try simp only[pS]
   refine tk 4 ?_; try simp only[pS]
   refine tk 5 ?_; try simp only[pS]
   refine tk 6 ?_; try simp only[pS]
   refine tk 7 ?_; try simp only[pS]
   refine tk 8 ?_; try simp only[pS]
   refine tk 9 ?_; try simp only[pS]
   refine tk 10 ?_; try simp only[pS]
   refine rd 11 fun K hK=>?_
   go_simp;rw[←hW3.out];refine hK.out _ _ (by (try dsimp only); exact hh3.out) (fun hHeld=>?_);clear hK K;try simp only[pS]
   refine wpAnyH_done (by kernel_rfl) ?_ _;go_wp2_with (fail);go_roundw
   case rel=>exact⟨i+1,by omega,by go_num,hmp3,hhd3,hb3.out⟩
   case measure=>simp[intOf]; omega
  ·obtain rfl:i=n:=by omega
   clear hhd;go_wp2_with (fail);go_loopw [44] (fun jS wr=>∃ j:Nat,j≤i∧jS=.int .i64 j∧Hid (MP wr w.heap.size g i m none (midA d i u b j 0))∧Below w.heap.size w wr) (fun jS _=>i - (intOf jS).toNat)
   case atStart=>exact⟨0,by omega,rfl,hmp,hbw⟩
   case round =>
    clear hmp hbw hg1 hs1;obtain⟨w2,rfl⟩:∃ w2:World,w2=wr:=⟨_,rfl⟩;obtain⟨j,hj,rfl,hmp,hbw⟩:=hrel;by_cases hji:j<i
    ·have j0:(0:Int)≤(j:Int):=by omega
     have j1:(j:Int)<(i:Int):=by omega
     have j2:(j:Int)<(m:Int):=by omega
     have hjm:j<m:=by omega
     obtain⟨bl,ol,rfl,hbl,hcl⟩:=hrl.at_ (k:=j) (by rw[hl.out]; exact hji);have hxl:=(hbw.cell (p:=⟨bl,ol+j,none⟩) hbl).trans hcl;have hE2:=(hE (l[j]?.getD 0) w2 ((hg.below hbw).more hbw.size)).out;rw[show eli F.toDesc (l[j]?.getD 0)=u j from by rw[hu.out]]at hE2;obtain⟨x,hx⟩:∃ x,x=l[j]?.getD 0:=⟨_,rfl⟩;rw[←hx]at hxl hE2;replace hE2:=Lib.hid hE2;replace hx:=Lib.hid hx;clear hcl;go_wp2_with (fail);(with_reducible refine hE2.out.mono ?_);rintro e w3 ⟨g1,rfl,hg1,hib,hb3⟩;have hmp3:Hid (MP w3 w.heap.size g i m (some g1) (midA d i u b j 0)):=hmp.out.grown (below_grown hb3 (Nat.le_refl _)) (by simp) (.inr fun k e=>by injection e with e; omega);have hB3:=hbw.trans (hb3.mono hbw.size);have hgg1:g≠g1:=by have:=hmp.out.1; omega
     clear hmp hbw hE2 hxl;go_wp2_with (fail);go_loopw [54] (fun iS wr=>∃ r:Nat,r≤i∧iS=.int .i64 r∧Hid (MP wr w.heap.size g i m (some g1) (midA d i u b j r))∧Hid (IB wr g1 (frobs d (u j) i))∧Below w.heap.size w wr) (fun iS _=>i - (intOf iS).toNat)
     case atStart=>exact⟨0,by omega,rfl,hmp3,hib,hB3⟩
     case round =>
      clear hmp3 hib hB3;obtain⟨w4,rfl⟩:∃ w4:World,w4=wr:=⟨_,rfl⟩;obtain⟨r,hr,rfl,hmp,hib,hbw⟩:=hrel;by_cases hri:r<i
      ·have r0:(0:Int)≤(r:Int):=by omega
       have r1:(r:Int)<(i:Int):=by omega
       obtain⟨br,cr,hrow,hput⟩:=hmp.out.at_ hri;have hxr:=hrow.hd;obtain⟨hcr,hfr⟩:=hrow.cells j hjm;have hyr:=hib.out.cell (i:=r) (by unfold frobs; rw[lst_length]; exact hri);rw[show (frobs d (u j) i)[r]?.getD 0=ci (frob (d*r) (u j)) from lst_get _ hri]at hyr;obtain⟨y,hy⟩:∃ y,y=ci (frob (d*r) (u j)):=⟨_,rfl⟩;rw[←hy]at hyr;have hbg1:g1≠br:=fun e=>hrow.nq (by rw[e])
       have hlo:=hrow.lo;have hib5:Hid (IB (w4.setCell ⟨br,j,none⟩ (.int .i64 y)) g1 (frobs d (u j) i)):=hib.out.far (p:=⟨br,j,none⟩) hbg1 _;have hB5:Hid (Below w.heap.size w (w4.setCell ⟨br,j,none⟩ (.int .i64 y))):=hbw.setCell (p:=⟨br,j,none⟩) hlo _;have hmp5:Hid (MP (w4.setCell ⟨br,j,none⟩ (.int .i64 y)) w.heap.size g i m (some g1) (midA d i u b j (r+1))):=by
        have h1:=hput (w4.setCell ⟨br,j,none⟩ (.int .i64 y)) (fun t=>if t=j then frob (d*r) (u j) else midA d i u b j r r t) (grown_set _ _ _) fun t ht=>by
         obtain⟨h2,h3⟩:=hrow.cells t ht;refine⟨?_,by simp[go_sem,h3]⟩;by_cases e:t=j
         ·subst e; rw[World.cell?_setCell_same _ _ _ h2,if_pos rfl,hy]
         ·rw[hdr_other e,h2,if_neg e]
        rw[midA_set]at h1;exact h1
       replace hy:=Lib.hid hy;replace hput:=Lib.hid hput;clear hrow hmp hib;go_wp2_with (fail);go_roundw
       case rel=>exact⟨r+1,by omega,by go_num,hmp5,hib5,hB5.out⟩
       case measure=>simp[intOf]; omega
      ·obtain rfl:r=i:=by omega
       have hmp5:Hid (MP w4 w.heap.size g r m none (midA d r u b (j+1) 0)):=hmp.out.free.congr fun s t hs _=>midA_next d r u b j hs t
       clear hmp hib;go_wp2_with (fail);go_roundw
       case rel=>exact⟨j+1,by omega,by go_num,hmp5,hbw⟩
       case measure=>simp[intOf]; omega
    ·obtain rfl:j=i:=by omega
     rw[midA_full]at hmp;go_wp2_with (fail);go_ret;exact⟨g,rfl,hgw,hmp.out,hbw⟩
end
section
open Go.RowKit Cw
attribute [local go_sem] Oper.semAt_some

def elL (F:FD)(l:List Int):Nat→R F.toDesc:=fun j=>eli F.toDesc (l[j]?.getD 0)
def BasP (F:FD)(l:List Int)(d:Nat):Prop:=l.length=F.m / d∧IndS d (F.m / d) (elL F l)
open Classical in
noncomputable def basE (F:FD)(l:List Int)(d:Int):Int:=if divB F.m d=true then (if BasP F l d.toNat then 0 else 9) else 6
theorem basE_no {F:FD} {l:List Int} {d:Int} (h:divB F.m d=false):basE F l d=6:=by unfold basE; rw[if_neg (by rw[h]; decide)]
theorem basE_ok {F:FD} {l:List Int} {d:Nat} (h:divB F.m d=true)(hb:BasP F l d):basE F l d=0:=by unfold basE; rw[if_pos h,if_pos (by rw[Int.toNat_natCast]; exact hb)]
theorem basE_bad {F:FD} {l:List Int} {d:Nat} (h:divB F.m d=true)(hb:¬ BasP F l d):basE F l d=9:=by unfold basE; rw[if_pos h,if_neg (by rw[Int.toNat_natCast]; exact hb)]
theorem FD_M (F:FD):FF.M (R F.toDesc)=F.m:=rfl

set_option maxHeartbeats 2000000 in
theorem tBasis_any (F:FD)(l:List Int)(d:Int)(Al:Option Addr)(cl gf:Nat)(w:World)(hg:GF w w.heap.size gf F)(hrl:Rd w w.heap.size Al l)(hl:l.length≤maxLen) :
  Calls Tryz.prog 112 #[.pointer (some ⟨gf,0,none⟩),.slice Al l.length cl,.int .i64 d] w fun e w'=>e=.returned (.int .i64 (basE F l d))∧Below w.heap.size w w':=by
 unfold maxLen at hl;have hI:=Lib.hid (isDegree_any F d gf w hg);by_cases hdv:divB F.m d=true
 ·rw[hdv]at hI;obtain⟨dn,rfl,hk1,hkm,hkd⟩:=divB_nat hdv;have hfm8:=F.m8;have hd8:dn≤8:=by omega
  have hE:=fun W h=>Lib.hid (teach_any F 0 dn gf W h hk1 hd8)
  obtain⟨n,hn⟩:∃ n,n=F.m / dn:=⟨_,rfl⟩;have hn8:n≤8:=by rw[hn]; exact Nat.le_trans (Nat.div_le_self _ _) F.m8
  have hn1:1≤n:=by rw[hn]; exact Nat.div_pos hkm hk1
  have hnM:dn*n=FF.M (R F.toDesc):=by rw[hn,FD_M]; exact Nat.mul_div_cancel' hkd
  have hbad:=basE_bad (l:=l) hdv;have hok:=basE_ok (l:=l) hdv;unfold BasP at hbad hok;rw[←hn]at hE hbad hok;by_cases hln:l.length=n
  ·have hS:=fun A c W a b e=>tSystem_any F n (n+1) dn rfl hk1 hd8 hn.symm l hln (fun i=>frob (dn*i) (eli F.toDesc 0)) Al A cl c gf W a b e
   have hV:=fun M g L W a b c d=>tSolve_any F n (n+1) rfl M g n gf L W a b c d (by omega)
   have hq:((l.length:Int) !=(n:Int))=false:=by rw[hln]; simp
   have h9:¬ IndS dn n (elL F l)→basE F l dn=9:=fun h=>hbad fun e=>h e.2
   have h0:IndS dn n (elL F l)→basE F l dn=0:=fun h=>hok ⟨hln,h⟩
   replace h9:=Lib.hid h9;replace h0:=Lib.hid h0;replace hln:=Lib.hid hln;replace hnM:=Lib.hid hnM;clear hbad hok hdv hkd hkm hn hfm8;go_enter Tryz.func112,Tryz.ntmps112;go_wp2_with (fail);(with_reducible refine hI.out.mono ?_);rintro e w1 ⟨rfl,hb1⟩;have hg1:=(hg.below hb1).more hb1.size;have hE1:=hE w1 hg1;go_wp2_with (fail);(with_reducible refine hE1.out.mono ?_);rintro e w2 ⟨g2,rfl,hg2,hib2,hb2⟩;have hB2:=hb1.trans (hb2.mono hb1.size);have hgf2:=(hg.below hB2).more hB2.size;have hS2:=Lib.hid (hS (some ⟨g2,0,none⟩) n w2 hgf2 ((hrl.below hB2).more hB2.size) hib2.rd);clear hS hE hE1 hI hb1 hb2;have hS3:=hS2;rw[←hln.out]at hS2;go_wp2_with (fail);have hS4:=hS3.out;rw[←hln.out]at hS4;rw[hln.out];(with_reducible refine hS3.out.mono ?_);rintro e w3 ⟨g3,rfl,hg3,hmp3,hb3⟩;have hB3:=hB2.trans (hb3.mono hB2.size);have hV3:=Lib.hid (hV _ g3 w2.heap.size w3 (hgf2.below hb3) hmp3 hb3.size hg3);clear hV hS2 hS3 hS4;go_wp2_with (fail);(with_reducible refine hV3.out.mono ?_);rintro e w4 ⟨hb4,⟨rfl,x,⟨j,hj,hxj⟩,hk⟩ | ⟨b5,x,rfl,hb,hib,hs,hk⟩⟩
   ·have hfin:Hid (basE F l dn=9):=h9.out fun h=>hxj (ker_of_ind hnM.out hk1 hn1 h hk j hj)
    have hB4:=hB2.trans ((hb3.trans hb4).mono hB2.size);clear hk hxj hV3;go_wp2_with (fail);go_ret;exact⟨by rw[hfin.out]; rfl,hB4⟩
   ·have hfin:Hid (basE F l dn=0):=h0.out (ind_of_ker hk);have hB4:=hB2.trans ((hb3.trans hb4).mono hB2.size);clear hk hs hib hV3;go_wp2_with (fail);go_ret;exact⟨by rw[hfin.out]; rfl,hB4⟩
  ·have hq:((l.length:Int) !=(n:Int))=true:=by rw[bne_iff_ne]; omega
   have hfin:Hid (basE F l dn=9):=hbad fun e=>hln e.1
   clear hbad hok hdv hkd hkm hn hfm8 hln hnM;go_enter Tryz.func112,Tryz.ntmps112;go_wp2_with (fail);(with_reducible refine hI.out.mono ?_);rintro e w1 ⟨rfl,hb1⟩;have hg1:=(hg.below hb1).more hb1.size;have hE1:=hE w1 hg1;go_wp2_with (fail);(with_reducible refine hE1.out.mono ?_);rintro e w2 ⟨g2,rfl,hg2,hib2,hb2⟩;go_wp2_with (fail);go_ret;exact⟨by rw[hfin.out]; rfl,hb1.trans (hb2.mono hb1.size)⟩
 ·rw[Bool.not_eq_true]at hdv;have hfin:=Lib.hid (basE_no (l:=l) hdv);rw[hdv]at hI;clear hdv;go_enter Tryz.func112,Tryz.ntmps112;go_wp2_with (fail);(with_reducible refine hI.out.mono ?_);rintro e w1 ⟨rfl,hb1⟩;go_wp2_with (fail);go_ret;exact⟨by rw[hfin.out]; rfl,hb1⟩
end
section
open Go.RowKit Cw
attribute [local go_sem] Oper.semAt_some

set_option maxHeartbeats 1000000 in
theorem tIsBasis_any (F:FD)(l:List Int)(d:Int)(Al:Option Addr)(cl gf:Nat)(w:World)(hg:GF w w.heap.size gf F)(hrl:Rd w w.heap.size Al l)(hl:l.length≤maxLen) :
  Calls Tryz.prog 53 #[.pointer (some ⟨gf,0,none⟩),.slice Al l.length cl,.int .i64 d] w fun e w'=>e=.returned (.bool (basE F l d==0))∧Below w.heap.size w w':=by
 have hB:=Lib.hid (tBasis_any F l d Al cl gf w hg hrl hl);go_enter Tryz.func53,Tryz.ntmps53;go_wp2_with (fail);(with_reducible refine hB.out.mono ?_);rintro e w1 ⟨rfl,hb1⟩;go_wp2_with (fail);go_ret;exact⟨rfl,hb1⟩

def CoorLow (F:FD)(l:List Int)(d n:Nat)(x:Int)(w:World)(e:Ending)(w':World):Prop :=
 Below w.heap.size w w'∧∃ b,∃ c:Nat→R F.toDesc,e=.returned (.tuple #[.slice (some ⟨b,0,none⟩) n n,.int .i64 0])∧w.heap.size≤b∧IB w' b (rowL F.toDesc n c)∧(∀ j,j<n→InSub d (c j))∧rsum n (fun j=>c j*elL F l j)=eli F.toDesc x
set_option maxHeartbeats 2000000 in
theorem tCoor_low (F:FD)(l:List Int)(d n:Nat)(x:Int)(Al:Option Addr)(cl gf:Nat)(w:World)(hg:GF w w.heap.size gf F)(hrl:Rd w w.heap.size Al l)(hd1:1≤d)(hdm:d≤F.m)(hkd:d∣F.m)(hn:F.m / d=n)(hln:l.length=n)(hI:IndS d n (elL F l)) :
  Calls Tryz.prog 115 #[.pointer (some ⟨gf,0,none⟩),.slice Al n cl,.int .i64 d,.int .i64 x] w (CoorLow F l d n x w):=by
 have hfm8:=F.m8;have hd8:d≤8:=by omega
 have hn8:n≤8:=by rw[←hn]; exact Nat.le_trans (Nat.div_le_self _ _) F.m8
 have hn1:1≤n:=by rw[←hn]; exact Nat.div_pos hdm hd1
 have hnM:d*n=FF.M (R F.toDesc):=by rw[←hn,FD_M]; exact Nat.mul_div_cancel' hkd
 have hB:=tBasis_any F l d Al cl gf w hg hrl (by unfold maxLen; omega);rw[basE_ok (divB_of hd1 hkd F.m1) (by unfold BasP; rw[hn]; exact⟨hln,hI⟩),hln]at hB;have hE:=fun W h=>teach_any F x d gf W h hd1 hd8
 rw[hn]at hE;have hS:=fun A c W a b e=>tSystem_any F n (n+1) d rfl hd1 hd8 hn l hln (fun i=>frob (d*i) (eli F.toDesc x)) Al A cl c gf W a b e
 have hV:=fun M g L W a b c d=>tSolve_any F n (n+1) rfl M g n gf L W a b c d (by omega)
 unfold CoorLow;replace hB:=Lib.hid hB;replace hE:=fun W h=>Lib.hid (hE W h)
 replace hln:=Lib.hid hln;replace hnM:=Lib.hid hnM;clear hdm hkd hn hfm8;go_enter Tryz.func115,Tryz.ntmps115;go_wp2_with (fail);(with_reducible refine hB.out.mono ?_);rintro e w1 ⟨rfl,hb1⟩;have hE1:=hE w1 ((hg.below hb1).more hb1.size);go_wp2_with (fail);(with_reducible refine hE1.out.mono ?_);rintro e w2 ⟨g2,rfl,hg2,hib2,hb2⟩;have hB2:=hb1.trans (hb2.mono hb1.size);have hgf2:=(hg.below hB2).more hB2.size;have hS2:=Lib.hid (hS (some ⟨g2,0,none⟩) n w2 hgf2 ((hrl.below hB2).more hB2.size) hib2.rd);clear hS hE hE1 hb1 hb2;go_wp2_with (fail);(with_reducible refine hS2.out.mono ?_);rintro e w3 ⟨g3,rfl,hg3,hmp3,hb3⟩;have hV3:=Lib.hid (hV _ g3 w2.heap.size w3 (hgf2.below hb3) hmp3 hb3.size hg3);clear hV hS2;go_wp2_with (fail);(with_reducible refine hV3.out.mono ?_);rintro e w4 ⟨hb4,⟨rfl,y,⟨j,hj,hyj⟩,hk⟩ | ⟨b5,c,rfl,hb,hib,hs,hk⟩⟩
 ·exact absurd (ker_of_ind hnM.out hd1 hn1 hI hk j hj) hyj
 ·obtain⟨h1,h2⟩:=coor_sub hnM.out hs;have hB4:=hB2.trans ((hb3.trans hb4).mono hB2.size);have hlo:w.heap.size≤b5:=Nat.le_trans (hB2.trans (hb3.mono hB2.size)).size hb;have hfin:=Lib.hid (show _∧_∧_ from ⟨hib,h1,h2 hn1⟩);clear hk hs hib hV3 h1 h2;go_wp2_with (fail);go_ret2;exact⟨hB4,b5,c,rfl,hlo,hfin.out⟩

end
end Go.Proofs.YtogfekjbpcfgmaaGreat
