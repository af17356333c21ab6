/- combine.translate: the words of the inner code for all elements of the great field. -/
import Derived.Test.YtogfekjbpcfgmaaGreatZtCCodJ
import Derived.Test.YtogfekjbpcfgmaaGreatZtCEncP
import Derived.Test.YtogfekjbpcfgmaaGreatZtCBasX
import Derived.Test.YtogfekjbpcfgmaaGreatZtCAltF
import Derived.Test.YtogfekjbpcfgmaaGreatZtCConL
namespace Go.Proofs.YtogfekjbpcfgmaaGreat
open Go.RowKit Cw
attribute [local go_sem] Oper.semAt_some

def TrPost (S F:FD)(rt n m:Nat)(l:List Int)(M:Nat→Nat→R S.toDesc)(w:World)(e:Ending)(w':World):Prop :=
 ∃ Aw cw,e=.returned (.tuple #[.slice Aw F.q cw,.int .i64 0])∧RdM w' w'.heap.size Aw F.q (rowsL S.toDesc m fun x=>wdS S F (rel F.toDesc rt) n (elL F l) M (rel F.toDesc x))∧Below w.heap.size w w'
set_option maxRecDepth 100000 in
set_option maxHeartbeats 4000000 in
theorem cTrans_ok (S F:FD)(n m rt:Nat)(rows:Nat→List Int)(M:Nat→Nat→R S.toDesc)(hv:VC S.p S.m m (modL S.toDesc) n rows S m M)(l:List Int)(A Ar Al:Option Addr)(c cr cl gf:Nat)(w:World)(hra:Rd w w.heap.size A (modL S.toDesc))(hma:RdM w w.heap.size Ar n rows)(hg:GF w w.heap.size gf F)(hrl:Rd w w.heap.size Al l)(hln:l.length=n)(hp:S.p=F.p)(hdv:S.m∣F.m)(hn:F.m / S.m=n)(hrt:IsRt S F rt)(hI:IndS S.m n (elL F l)) :
  Calls Tryz.prog 54 #[.pointer (some ⟨gf,0,none⟩),.agg #[.int .i64 S.p,.int .i64 S.m,.slice A S.mod.length c,.int .i64 m,.slice Ar n cr],.slice Al n cl] w (TrPost S F rt n m l M w):=by
 have hm1:=S.m1;have hFm:=F.m1;have hdm:=Nat.le_of_dvd (by omega) hdv;have hFq:=F.toDesc.q256;have hSq:=S.toDesc.q256;have hn8:n≤8:=by rw[←hn]; exact Nat.le_trans (Nat.div_le_self _ _) F.m8
 have hmF:=mk_ints F.q (by omega);have hmN:=mk_ints n (by omega);have h0:=hrt.2.1;have hEm:=fun W a b=>Lib.hid (tEmbed_yes S F rt A c gf W a b hv.good hp (divB_of hm1 hdv hFm) hrt)
 have hOr:=fun W a=>Lib.hid (gOrder_any F gf W a)
 have hCo:=fun x W a b=>Lib.hid (tCoor_low F l S.m n x Al cl gf W a b hm1 hdm hdv hn hln hI)
 have hEn:∀ x A1 c1 W,Rd W W.heap.size A (modL S.toDesc)→RdM W W.heap.size Ar n rows→Rd W W.heap.size A1 (rowL S.toDesc n x)→Hid (Calls Tryz.prog 36 #[.agg #[.int .i64 S.p,.int .i64 S.m,.slice A S.mod.length c,.int .i64 m,.slice Ar n cr],.slice A1 n c1] W (VecPost (rowL S.toDesc m (cmb n x M)) m W)):=fun x A1 c1 W a b d=>by
  have h:=cEncode_ok S.p S.m m (modL S.toDesc) n rows A Ar c cr S m M hv x A1 c1 W a b d;rw[modL_length]at h;exact h
 have hm64:=hv.m64;have hmsg:∀ x (cc:Nat→R F.toDesc),(∀ j,j<n→InSub S.m (cc j))→rsum n (fun j=>cc j*elL F l j)=rel F.toDesc x→lst n (fun j=>ci (bk S F (rel F.toDesc rt) (cc j)))=rowL S.toDesc n (msgS S F (rel F.toDesc rt) n (elL F l) (rel F.toDesc x)):=fun x cc a b =>
  lst_congr fun j hj=>by rw[msgS_co hp h0 hI a b j hj]
 obtain⟨Z,hZ⟩:∃ Z,Z=w.alloc (.cells #[.int .i64 S.p,.int .i64 S.m,.slice A S.mod.length c,.int .i64 m,.slice Ar n cr] 27):=⟨_,rfl⟩;have hB:Below w.heap.size w Z:=by rw[hZ]; exact (Below.refl _ _).alloc (Nat.le_refl _) _
 have hZs:w.heap.size<Z.heap.size:=by rw[hZ]; simp
 have f5H:Hid (Five Z w.heap.size (.int .i64 S.p) (.int .i64 S.m) (.slice A S.mod.length c) (.int .i64 m) (.slice Ar n cr)):=by rw[hZ]; exact Five.new w _ _ _ _ _ _
 have hE1:=hEm Z ((hg.below hB).more hB.size) ((hra.below hB).more hB.size);obtain⟨s,hs⟩:∃ s,s=w.heap.size:=⟨_,rfl⟩;rw[←hs]at hZs f5H;replace hZ:=Lib.hid hZ;replace hp:=Lib.hid hp;replace h0:=Lib.hid h0;replace hn:=Lib.hid hn;replace hln:=Lib.hid hln;replace hmsg:=Lib.hid hmsg;clear hEm hv hrt hI hdv hdm;unfold TrPost;go_enter Tryz.func54,Tryz.ntmps54;obtain⟨a0,a1,a2,a3,a4,-⟩:=f5H.out;go_wp2_with (fail);rw[←hZ.out];simp only[←hs];have hsw:w.heap.size≤s:=Nat.le_of_eq hs.symm;replace hs:=Lib.hid hs;go_wp2_with (fail);(with_reducible refine hE1.out.mono ?_);rintro e w1 ⟨v,rfl,hown,hb1⟩;obtain⟨Ai,ci',rfl,hci1,hri,-⟩:=hown.form;rw[embL_length]at hci1 ⊢;have hB1:=hB.trans (hb1.mono hB.size);have hs1:s<w1.heap.size:=Nat.lt_of_lt_of_le hZs hb1.size;have f51:=Lib.hid (f5H.out.keep hb1 hZs);have hg1:=(hg.below hB1).more hB1.size;have hO1:=hOr w1 hg1;obtain⟨Y,hY⟩:∃ Y,Y=w1.alloc (.cells (Array.replicate F.q (Value.int .i64 0)) 3):=⟨_,rfl⟩;have hbY:Below w1.heap.size w1 Y:=by rw[hY]; exact (Below.refl _ _).alloc (Nat.le_refl _) _
 have hibY:Hid (IB Y w1.heap.size (List.replicate F.q 0)):=by rw[hY]; exact IB.newz w1 F.q
 replace hY:=Lib.hid hY;clear hown hE1 a0 a1 a2 a3 a4;obtain⟨a0,a1,a2,a3,a4,-⟩:=f51.out;go_wp2_with (fail);(with_reducible refine hO1.out.mono ?_);rintro e wq ⟨rfl,rfl⟩;go_wp2_with (fail);rw[←hY.out];clear a0 a1 a2 a3 a4 hO1;go_loopw [36,11,12] (fun i _ _ wr=>∃ (k:Nat) (L:List Int),k≤S.q∧i=.int .i64 k∧Hid (IB wr w1.heap.size L)∧Hid (BkI S F (rel F.toDesc rt) 0 k L)∧Below w1.heap.size w1 wr) (fun i _ _ _=>S.q - (intOf i).toNat)
 case atStart=>exact⟨0,_,by omega,rfl,hibY,Lib.hid (BkI.zero S F _ 0),hbY⟩
 case round =>
  obtain⟨w3,rfl⟩:∃ w3:World,w3=wr:=⟨_,rfl⟩;obtain⟨k,L,hk,rfl,hib,hbk,hb3⟩:=hrel;by_cases hlt:k<S.q
  ·have j0:(0:Int)≤(k:Int):=by omega
   have j1:(k:Int)<(S.q:Int):=by omega
   obtain⟨bi,oi,rfl,hbi,hci⟩:=hri.at_ (k:=k) (by rw[embL_length]; exact hlt);rw[embL_get S F rt hlt]at hci;obtain⟨y,hy⟩:∃ y:Nat,y=rcode (phi S F (rel F.toDesc rt) (rel S.toDesc k)):=⟨_,rfl⟩;have hyl:y<F.q:=by rw[hy]; exact rcode_lt _
   have hst:=hbk.out.step hp.out h0.out hlt;rw[←hy]at hst;rw[show Cw.ci (phi S F (rel F.toDesc rt) (rel S.toDesc k))=(y:Int) from by rw[hy]; rfl]at hci;replace hst:=Lib.hid hst;replace hy:=Lib.hid hy;replace hci:=(hb3.cell (p:=⟨bi,oi+k,none⟩) hbi).trans hci;have hcW:=hib.out.cell (i:=y) (by rw[hbk.out.1]; exact hyl);have hfW:=hib.out.frozen y;have hset:=Lib.hid (hib.out.set_ y (k:Int));have y0:(0:Int)≤(y:Int):=by omega
   have y1:(y:Int)<(F.q:Int):=by omega
   have hb4:=Lib.hid (hb3.setCell (p:=⟨w1.heap.size,y,none⟩) (Nat.le_refl _) (.int .i64 k));go_wp2_with (fail);go_roundw
   case rel=>exact⟨k+1,_,by omega,by go_num,hset,hst,hb4.out⟩
   case measure=>simp[intOf]; omega
  ·have hkq:k=S.q:=by omega
   rw[hkq]at hbk;have hL:=hbk.out.done hp.out h0.out;rw[hL]at hib;clear hbk hL;replace hkq:=Lib.hid hkq;have hO3:=hOr w3 ((hg1.below hb3).more hb3.size);have hB3:=hB1.trans (hb3.mono hB1.size);have f53:=Lib.hid (f51.out.keep hb3 hs1);have hg3:=(hg1.below hb3).more hb3.size;have hgl3:=hib.out.lt;have hs3:s<w3.heap.size:=Nat.lt_of_lt_of_le hs1 hb3.size;clear hri f5H f51 hb1 hB1 hibY hbY hg1;go_wp2_with (fail);(with_reducible refine hO3.out.mono ?_);rintro e wq ⟨rfl,rfl⟩;go_wp2_with (fail);go_loopw [48,13,14,15,16,17,18,19,20] (fun iS vS _ _ _ _ _ _ _ wr=>∃ x:Nat,x≤F.q∧iS=.int .i64 x∧OwnM wr w3.heap.size vS x (rowsL S.toDesc m fun x=>wdS S F (rel F.toDesc rt) n (elL F l) M (rel F.toDesc x))∧Below w3.heap.size w3 wr) (fun iS _ _ _ _ _ _ _ _ _=>F.q - (intOf iS).toNat)
   case atStart=>exact⟨0,by omega,rfl,OwnM.nil _ _ _,Below.refl _ _⟩
   case round =>
    obtain⟨w4,rfl⟩:∃ w4:World,w4=wr:=⟨_,rfl⟩;obtain⟨x,hx,rfl,hown,hb4⟩:=hrel;by_cases hxl:x<F.q
    ·have x0:(0:Int)≤(x:Int):=by omega
     have x1:(x:Int)<(F.q:Int):=by omega
     have hB4:=hB3.trans (hb4.mono hB3.size);have hC4:=hCo x w4 ((hg3.below hb4).more hb4.size) ((hrl.below hB4).more hB4.size);have f54:=Lib.hid (f53.out.keep hb4 hs3);obtain⟨a0,a1,a2,a3,a4,-⟩:=f54.out;go_wp2_with (fail);(with_reducible refine hC4.out.mono ?_);rintro e w5 ⟨hx5,bc,cc,rfl,hlo5,hib5,hsub,hsum⟩;rw[eli_nat hxl]at hsum;have hms:=hmsg.out x cc hsub hsum;have hB35:=hb4.trans (hx5.mono hb4.size);have f55:=Lib.hid (f53.out.keep hB35 hs3);have hib5b:=Lib.hid (hib.out.below hB35 hgl3);obtain⟨V,hV⟩:∃ V,V=w5.alloc (.cells (Array.replicate n (Value.int .i64 0)) 3):=⟨_,rfl⟩;have hbV:Below w5.heap.size w5 V:=by rw[hV]; exact (Below.refl _ _).alloc (Nat.le_refl _) _
     have hibV:Hid (IB V w5.heap.size (upd n 0 fun j=>Cw.ci (bk S F (rel F.toDesc rt) (cc j)))):=by rw[hV,upd_zero]; exact IB.newz w5 n
     replace hV:=Lib.hid hV;replace hms:=Lib.hid hms;replace hib5:=Lib.hid hib5;clear hsub hsum hC4 a0 a1 a2 a3 a4;go_wp2_with (fail);rw[←hV.out];go_loopw [69,18,19] (fun i _ _ wr=>∃ k:Nat,k≤n∧i=.int .i64 k∧Hid (IB wr w5.heap.size (upd n k fun j=>Cw.ci (bk S F (rel F.toDesc rt) (cc j))))∧Below w5.heap.size w5 wr) (fun i _ _ _=>n - (intOf i).toNat)
     case atStart=>exact⟨0,by omega,rfl,hibV,hbV⟩
     case round =>
      obtain⟨w6,rfl⟩:∃ w6:World,w6=wr:=⟨_,rfl⟩;obtain⟨i,hi,rfl,hib6,hb6⟩:=hrel;by_cases hil:i<n
      ·have i0:(0:Int)≤(i:Int):=by omega
       have i1:(i:Int)<(n:Int):=by omega
       have hc6:=(hib5.out.below hb6 hib5.out.lt).cell (i:=i) (by rw[rowL_length]; exact hil);rw[rowL_get F.toDesc cc hil]at hc6;obtain⟨y,hy⟩:∃ y:Nat,y=rcode (cc i):=⟨_,rfl⟩;have hyl:y<F.q:=by rw[hy]; exact rcode_lt _
       rw[show Cw.ci (cc i)=(y:Int) from by rw[hy]; rfl]at hc6;have hk6:=(hib5b.out.below hb6 hib5b.out.lt).cell (i:=y) (by unfold backL; rw[lst_length]; exact hyl);rw[show (backL S F (rel F.toDesc rt))[y]?.getD 0=Cw.ci (bk S F (rel F.toDesc rt) (cc i)) from by unfold backL; rw[lst_get _ hyl,hy,rel_rcode]]at hk6;have hset:=hib6.out.set_ i (Cw.ci (bk S F (rel F.toDesc rt) (cc i)));rw[upd_set n i fun j=>Cw.ci (bk S F (rel F.toDesc rt) (cc j))]at hset;have hcW:=hib6.out.cell (i:=i) (by rw[upd_length]; exact hil);have hfW:=hib6.out.frozen i;generalize Cw.ci (bk S F (rel F.toDesc rt) (cc i))=y2 at hset hk6;have y0:(0:Int)≤(y:Int):=by omega
       have y1:(y:Int)<(F.q:Int):=by omega
       have hb7:=Lib.hid (hb6.setCell (p:=⟨w5.heap.size,i,none⟩) (Nat.le_refl _) (.int .i64 y2));replace hset:=Lib.hid hset;replace hy:=Lib.hid hy;go_wp2_with (fail);go_roundw
       case rel=>exact⟨i+1,by omega,by go_num,hset,hb7.out⟩
       case measure=>simp[intOf]; omega
      ·have hin:i=n:=by omega
       rw[hin,upd_full,hms.out]at hib6;replace hin:=Lib.hid hin;have hb37:=hB35.trans (hb6.mono hB35.size);have hB7:=hB3.trans (hb37.mono hB3.size);have hE6:=hEn (msgS S F (rel F.toDesc rt) n (elL F l) (rel F.toDesc x)) (some ⟨w5.heap.size,0,none⟩) n w6 ((hra.below hB7).more hB7.size) ((hma.below hB7).more hB7.size) hib6.out.rd;obtain⟨a0,a1,a2,a3,a4,-⟩:=f53.out.keep hb37 hs3;go_wp2_with (fail);(with_reducible refine hE6.out.mono ?_);rintro e w7 ⟨bw,rfl,hlo7,hr7,hb7⟩;have hown6:=hown.below (hx5.trans (hb6.mono hx5.size)) (Nat.le_refl _);have hown7:=hown6.below hb7 (Nat.le_refl _);have hlt6:=hown6.lt0;have hL:=rowsL_length S.toDesc m (fun x=>wdS S F (rel F.toDesc rt) n (elL F l) M (rel F.toDesc x)) x;have hs37:=hb37.size;have hs67:=hb7.size;have hb38:=hb37.trans (hb7.mono hb37.size);clear a0 a1 a2 a3 a4;go_wp2_with (at_builtin; refine wpList_appRow rfl (.tmp 91) (.tmp 93) rfl w3.heap.size _ x _ hown7 (some ⟨bw,0,none⟩) m m hr7 hL (Nat.le_refl _) (by unfold maxLen; omega) w6.heap.size hlt6 (fun a e=>by cases e; exact hlo7) hs37 rfl rfl rfl (by omega) (Nat.le_trans hs37 hs67) ?_; intro v8 w8 ho8 hb8);go_roundw
       case rel=>exact⟨x+1,by omega,by go_num,ho8,hb38.trans (hb8.mono (Nat.le_refl _))⟩
       case measure=>simp[intOf]; omega
    ·obtain rfl:x=F.q:=by omega
     obtain⟨A9,c9,rfl,hr9⟩:=hown.rdm;have hB9:=hB3.trans (hb4.mono hB3.size);clear hown;go_wp2_with (fail);go_ret2;exact⟨A9,c9,rfl,hr9,hB9⟩
theorem cTrans_two (S F F1:FD)(h:F1.toDesc=F.toDesc)(n m rt:Nat)(rows:Nat→List Int)(M:Nat→Nat→R S.toDesc)(hv:VC S.p S.m m (modL S.toDesc) n rows S m M)(l:List Int)(A Ar Al:Option Addr)(c cr cl gf:Nat)(w:World)(hra:Rd w w.heap.size A (modL S.toDesc))(hma:RdM w w.heap.size Ar n rows)(hg:GF w w.heap.size gf F1)(hrl:Rd w w.heap.size Al l)(hln:l.length=n)(hp:S.p=F.p)(hdv:S.m∣F.m)(hn:F.m / S.m=n)(hrt:IsRt S F rt)(hI:IndS S.m n (elL F l)) :
  Calls Tryz.prog 54 #[.pointer (some ⟨gf,0,none⟩),.agg #[.int .i64 S.p,.int .i64 S.m,.slice A S.mod.length c,.int .i64 m,.slice Ar n cr],.slice Al n cl] w (TrPost S F rt n m l M w):=by
 obtain⟨D0,g0,a0,b0,c0⟩:=F;obtain⟨D1,g1,a1,b1,d1⟩:=F1;dsimp only at h;subst h;exact cTrans_ok S ⟨D1,g1,a1,b1,d1⟩ n m rt rows M hv l A Ar Al c cr cl gf w hra hma hg hrl hln hp hdv hn hrt hI
theorem tIsBasis_two (F F1:FD)(h:F1.toDesc=F.toDesc)(l:List Int)(d:Int)(Al:Option Addr)(cl gf:Nat)(w:World)(hg:GF w w.heap.size gf F1)(hrl:Rd w w.heap.size Al l)(hl:l.length≤maxLen) :
  Calls Tryz.prog 53 #[.pointer (some ⟨gf,0,none⟩),.slice Al l.length cl,.int .i64 d] w fun e w'=>e=.returned (.bool (basE F l d==0))∧Below w.heap.size w w':=by
 obtain⟨D0,g0,a0,b0,c0⟩:=F;obtain⟨D1,g1,a1,b1,d1⟩:=F1;dsimp only at h;subst h;exact tIsBasis_any ⟨D1,g1,a1,b1,d1⟩ l d Al cl gf w hg hrl hl
end Go.Proofs.YtogfekjbpcfgmaaGreat
