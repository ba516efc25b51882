/- The laws of chains: agree. -/
import Derived.Test.YtjdiofjjoefnhaaGreatDoorMRcB
import Derived.Test.YtjdiofjjoefnhaaGreatDoorMSam
set_option maxRecDepth 100000
set_option maxHeartbeats 8000000
namespace Go.Proofs.YtjdiofjjoefnhaaGreatDoor
open Tryz Go.ChangeShapes Go.WideShapes Go.ChangeAt Go.RowKit Go.Sort
theorem sS {b:hV}(h:jq b=true):(∀t∈b.hQ,w9 t)/\b.hQ.length<=1000:=by
 have h2:=yt h;refine⟨λt ht=> ?_,UN⟩;obtain⟨y,a2,z,j⟩:=h2.2 t ht;exact⟨UN,UN,λo u=>by have:=j o u;omega,UN⟩
theorem AK (c:Nat)(SB PI:UO)(w:World)(r:i4)(m:k7)(bs:List hV)(v:p3)(h:j5 c SB PI w r m bs v)(ok:lE r m)(rc:nL)(s0:lD m rc)(S:UO)(pi:Bool)(la:UP)(lc:Nat)(hr:jf.rel S w [.slice la rc.L.length lc] rc.L)(aP:m.L.length<=12)(bD: ∀e∈m.L,jq e.b=true):
 Calls prog 15 #[.pointer (some ⟨c,0,none⟩),.agg (mE pi r la lc rc)] w (Rt w (.bool true)):=by
 have cf:=(g4.lens hr).2;unfold maxLen at cf;have aw:=jc w (.cells (mE pi r la lc rc) 39);have ar:=Hd (gY w (.cells (mE pi r la lc rc) 39));obtain⟨HC,ap,bS,a9,b5,bb,bj,a4⟩:=Mb (h.c' aw) (jf.c' hr aw) aw ok bD s0 (s0.PJ ok) s0.Qn;obtain⟨aj,bX,b7,b1⟩:=oX s0.bounds (s0.best ok) (s0.PH ok) s0.zU;have aH:Hi (rc.L.length<=12):=Hd (by rw [s0.len];exact aP);have aG:Hi (m.best.length<=100):=by have:=ok.best.len ok.high;show _<=_;omega
 have b0:=Hd aP;clear aw h hr ok bD s0 aP;go_in;go_upto_region 1 with(fail);generalize w.alloc (.cells (mE pi r la lc rc) 39)=W at*;go_wp2_with fail;refine UR (FX c SB PI W r m bs v HC.o (by have:=aG.o;omega)) λw1 hb1=> ?_;have bp:=Hd (b' hb1 ar.o);have aA:w1.cell? ⟨w.heap.size,16,none⟩=some (UZ rc.lh):=(a' bp.o).1 16;go_wp2_with (refine kf rfl _ _ rfl w.heap.size rfl _ _ _ _ bp.o underlying39 rfl UQ ?_)
 refine UR (yG S w1 pi r rc la lc (jf.c' ap.o hb1) rc.lh aj.o.2.1) λw2 hb2=> ?_;rw [bj.o.1,bj.o.2];have aC:=Hd (d' hb1 hb2);clear aA hb1 hb2;go_wp2_with fail;refine UR (Aw c SB PI w2 r m bs v (HC.o.c' aC.o)) λbO hb3=> ?_;have ai:=Hd (d' aC.o hb3);clear hb3 aC;have bq:=Hd (b' ai.o ar.o);have aA:bO.cell? ⟨w.heap.size,17,none⟩=some (UZ rc.fin):=(a' bq.o).1 17;go_wp2_with (refine kf rfl _ _ rfl w.heap.size rfl _ _ _ _ bq.o underlying39 rfl UQ ?_)
 refine UR (yG S bO pi r rc la lc (jf.c' ap.o ai.o) rc.fin aj.o.2.2.2) λcq bw=> ?_;rw [a4.o.1,a4.o.2];have ad:=Hd (d' ai.o bw);obtain⟨K,al,aq⟩:=kT (b' ad.o ar.o) (HC.o.c' ad.o) (jf.c' ap.o ad.o);clear aA bw ai ar HC ap;obtain⟨cE,bF⟩:=iF (r4 m);rw [bF];obtain⟨bl,ah⟩:=iF (m.best.length);have cz:=Hd ah;rw [ah];clear bF ah;go_upto_region 5 with(fail);refine qS (S:=(lO cq w.heap.size (UV pi r la lc rc))) UQ ((lO.of K.o (g' _ _)).drew) (λhHeld=> ?_);refine kL 0 ?_;go_simp;refine kL 1 ?_;go_simp;refine kL 2 ?_;go_simp;refine kL 3 ?_;go_simp;refine kL 4 ?_;go_simp;refine kL 5 ?_;go_simp;refine kL 6 ?_;go_simp;refine kL 7 ?_;go_simp;refine kL 8 ?_;go_simp;refine kL 9 ?_;go_simp;refine kL 10 ?_;go_simp;refine kL 11 ?_;go_simp;refine kL 12 ?_;go_simp;refine kL 13 ?_;go_simp;refine kL 14 ?_;go_simp;refine kL 15 ?_;go_simp;refine kL 16 ?_;go_simp;refine kL 17 ?_;go_simp;refine kL 18 ?_;go_simp;refine kL 19 ?_;go_simp;refine xp 21 rfl (pe (by rfl) _ _ rfl (w.heap.size) (0) rfl (UV pi r la lc rc) _ (λcv aL=>aL.range) underlying39 rfl UQ) ?_;go_simp;refine l8 20 rfl (λG z=> ?_);go_simp;go_at_call 55;refine(JR c SB PI _ r m bs v (al.o.c' hHeld.mx) (by have:=aG.o;omega)).mono ?_;rintro e wa⟨u,rfl,aU,af⟩;obtain⟨cl,co,rfl, -, -⟩:=iW aU;obtain⟨bm,j⟩:=ik aU.slice (d' hHeld.mx af);clear aU af
 (try go_wp2_with fail)
 clear hHeld;refine z.out _ _ (lO.of K.o j.o) (λhHeld=> ?_);clear z G;go_simp;refine l8 22 rfl (λG z=> ?_);go_simp;go_at_call 56;refine(Fw S _ pi r rc la lc (jf.c' aq.o hHeld.mx) b1.o (by have:=aH.o;omega) aj.o.1 aj.o.2.1).mono ?_;rintro e wb⟨u2,rfl,az,U⟩;rw [bX.o]at az;obtain⟨cn,cp,rfl, -, -⟩:=iW az;obtain⟨bn,bo⟩:=ik (gZ.c' bm.o U) az.slice;clear j bm;have j:=Hd (d' hHeld.mx U);clear az U
 (try go_wp2_with fail)
 clear hHeld;refine z.out _ _ (lO.of K.o j.o) (λhHeld=> ?_);clear z G;go_simp;refine l8 23 rfl (λG z=> ?_);go_simp;go_at_call 54;refine UR (yu _ _ _ cl cn _ _ co cp m.best m.best rfl rfl bn.o bo.o (by have:=aG.o;omega)) λwd ag=> ?_;rw [show decide (m.best=m.best)=true from iP rfl];clear j bn bo;have j:=Hd (d' hHeld.mx ag);clear ag
 (try go_wp2_with fail)
 clear hHeld;refine z.out _ _ (lO.of K.o j.o) (λhHeld=> ?_);clear z G;go_simp;refine kL 24 ?_;go_simp;refine kL 25 ?_;go_simp;refine kL 26 ?_;go_simp;refine kL 27 ?_;go_simp;refine xp 29 rfl (pe (by rfl) _ _ rfl (w.heap.size) (0) rfl (UV pi r la lc rc) _ (λcv aL=>aL.range) underlying39 rfl UQ) ?_;go_simp;refine l8 28 rfl (λG z=> ?_);go_simp;go_at_call 57;refine(IV c SB PI _ r m bs v (al.o.c' hHeld.mx) b0.o).mono ?_;rintro e cH⟨ta,tc,T,rfl,bI,bJ,bG,af⟩;obtain⟨be,bk,bi⟩:=kT bI.slice bJ bG;clear j;have j:=Hd (d' hHeld.mx af);clear bI bJ bG af
 (try go_wp2_with fail)
 clear hHeld;refine z.out _ _ (lO.of K.o j.o) (λhHeld=> ?_);clear z G;go_simp;refine l8 30 rfl (λG z=> ?_);go_simp;go_at_call 58;refine(Ex S _ pi r rc la lc (jf.c' aq.o hHeld.mx) (by have:=aH.o;omega) bb.o.ids).mono ?_;rintro e cI⟨cF,V,rfl,aT,bK,bH,cg,U⟩;obtain rfl:V=T:=Ag bK bk.o λx=>by rw [bH x,bi.o x];exact b7.o x
 obtain⟨cj,ck,rfl, -, -⟩:=iW aT;obtain⟨bf,bg⟩:=ik (gZ.c' be.o U) aT.slice;have bh:Hi (V.length<=1000):=by have:=aH.o;show _<=_;omega
 clear j be bk bi;have j:=Hd (d' hHeld.mx U);clear aT bK bH cg U
 (try go_wp2_with fail)
 clear hHeld;refine z.out _ _ (lO.of K.o j.o) (λhHeld=> ?_);clear z G;go_simp;refine l8 31 rfl (λG z=> ?_);go_simp;go_at_call 54;refine UR (yu _ _ _ ta cj _ _ tc ck V V rfl rfl bf.o bg.o (by have:=bh.o;omega)) λbP ag=> ?_;rw [show decide (V=V)=true from iP rfl];clear j bf bg;have j:=Hd (d' hHeld.mx ag);clear ag
 (try go_wp2_with fail)
 clear hHeld;refine z.out _ _ (lO.of K.o j.o) (λhHeld=> ?_);clear z G;go_simp;refine kL 32 ?_;go_simp;refine kL 33 ?_;go_simp;refine mA UQ ?_ _;obtain⟨b8,a2,b4,bU⟩:=oX (b' j.o K.o) (al.o.c' j.o) (jf.c' aq.o j.o) (d' ad.o j.o);clear j bh al aq ad K;have aA:bP.cell? ⟨w.heap.size,15,none⟩=some (.slice la rc.L.length lc):=(a' b8.o).1 15;go_wp2;go_loopw [80] (λaV wr=> ∃k:Nat,k<=rc.L.length/\aV= UZ k/\Hi (BW bP wr)) (λaV _=>rc.L.length-(intOf aV).toNat)
 case atStart=>exact⟨0,iy _,rfl,g' _ _⟩
 case round=>
  obtain⟨k,cB,rfl,ak⟩:=hrel;by_cases hlt:k<rc.L.length
  ·obtain⟨ce,off,es,rfl, -,ah,bC,ax⟩:=g4.at (jf.c' b4.o ak.o) k hlt
   obtain⟨xa,xc,rfl,aO⟩:=p4.inv bC;rw [p4.n]at ax;obtain⟨cA,ay,au,bz,aQ⟩:=bb.o.at a9.o k hlt;obtain⟨s,bE⟩:=iF (rc.L[k]);rw [bE]at aO ax ay au bz aQ;obtain⟨aF,a3,ao,bT,b6⟩:=zL aO ax ay au aQ;have aI:Hi (jq s.b=true):=Hd (by rw [<-au];exact b5.o _ (kx ay).1);clear aO ax ay au bz aQ bC ah bE;have cC:(0:Int)<=(k:Int):=UN;have cD:(k:Int)<(rc.L.length:Int):=UN
   go_upto_region 10 with(first
    |(refine wpList_load_mid rfl _ _ rfl ce (off+k*9) rfl [s.b.parent,UZ s.b.f',s.b.hJ,s.b.work,s.b.e',.slice xa s.b.hQ.length xc,s.id,UZ s.par,s.jy] _ a3.o underlying94 rfl UQ ?_)
    |(refine kI rfl _ _ _ rfl wr.heap.size _ rfl rfl _ _ (gY wr (.cells #[U0,I0,U0,U0,U0,S0,U0,I0,U0] 94)) UQ rfl UQ ?_))
   obtain⟨bQ,bL,aZ,aJ⟩: ∃y,_=y/\Hi (BW wr y)/\Hi (y.heap[wr.heap.size]? =some (.cells #[s.b.parent,UZ s.b.f',s.b.hJ,s.b.work,s.b.e',.slice xa s.b.hQ.length xc,s.id,UZ s.par,s.jy] 94 (0,0))):=
    ⟨_,rfl,below_setRow (g:=wr.heap.size) (hd (g' _ _) (.cells #[U0,I0,U0,U0,U0,S0,U0,I0,U0] 94)) (g9 _) #[s.b.parent,UZ s.b.f',s.b.hJ,s.b.work,s.b.e',.slice xa s.b.hQ.length xc,s.id,UZ s.par,s.jy],kr _ _ _ _ _ _ (gY wr (.cells #[U0,I0,U0,U0,U0,S0,U0,I0,U0] 94))⟩
   rw [bL];clear bL a3;obtain⟨aD,a7⟩:=ik (d' ak.o aZ.o) ((aF.o.c' aZ.o).blk);have bA:=aF.o.id;clear aF ak;have aW:bQ.cell? ⟨wr.heap.size,6,none⟩=some (U2 s.id):=(a' aJ.o).1 6;go_wp2_with fail;refine(Hy c SB PI bQ r m bs v (a2.o.c' aD.o) (λe ch=>(a9.o.blk e ch).1.valid) s.id bA).mono ?_;rintro e ab (⟨bB, -, -⟩|⟨s2,aX,aY,aN,rfl,aM,av⟩)
   ·rw [ao.o]at bB;simp at bB
   rw [ao.o]at aN;obtain rfl:=jR aN;rw [bT.o]at aM⊢;obtain⟨a1,a0,br,a5⟩:=oX aM av (b' av aJ.o) (a7.o.c' av);clear aM av aN aW aJ a7;go_upto_region 11 with(refine kI rfl _ _ _ rfl ab.heap.size _ rfl rfl _ _ (gY ab (.cells #[U0,I0,U0,U0,U0,S0] 44)) UQ rfl UQ ?_)
   obtain⟨bR,bM,ae,bt⟩: ∃y,_=y/\Hi (BW ab y)/\Hi (y.heap[ab.heap.size]? =some (.cells #[s.b.parent,UZ s.b.f',s.b.hJ,s.b.work,s.b.e',.slice aX s.b.hQ.length aY] 44 (0,0))):=
    ⟨_,rfl,below_setRow (g:=ab.heap.size) (hd (g' _ _) (.cells #[U0,I0,U0,U0,U0,S0] 44)) (g9 _) #[s.b.parent,UZ s.b.f',s.b.hJ,s.b.work,s.b.e',.slice aX s.b.hQ.length aY],kr _ _ _ _ _ _ (gY ab (.cells #[U0,I0,U0,U0,U0,S0] 44))⟩
   rw [bM];clear bM;obtain⟨aK,a6,a8,aE⟩:=oX (b' ae.o br.o) (a5.o.c' ae.o) (a1.o.c' ae.o) (d' aD.o (d' a0.o ae.o));clear br a5 a1 a0 ae aD;have aW:bR.cell? ⟨wr.heap.size,6,none⟩=some (U2 s.id):=(a' aK.o).1 6;go_wp2_with fail;refine UR (IO c SB PI bR r m bs v (a2.o.c' aE.o) s.id bA) λcu Y=> ?_;have bN:xz m s.id=s.jy:=(by unfold xz;rw [ao.o];exact b6.o);have bx:(iA m.L s.id).isSome=true:=(by rw [ao.o];rfl);rw [bN,bx];obtain⟨b9,cd,bY,bZ,bV⟩:=zL (b' Y aK.o) (b' Y bt.o) (a6.o.c' Y) (a8.o.c' Y) (d' aE.o Y);clear bN bx aW Y aK bt a6 a8 aE;obtain⟨cw, -⟩:=a' cd.o;obtain⟨cy, -⟩:=a' b9.o;have cJ:(s.jy != s.jy)=false:=US;go_wp2_with fail;refine UR (Dl _ _ cu s.b s.b aX xa aY xc bZ.o bY.o (sS aI.o).1 (sS aI.o).1 (sS aI.o).2) λcG bv=> ?_;rw [show Fz s.b s.b=true from(Bk _ _).2 rfl];have bW:=Hd (d' bV.o bv);clear cw cy bv;go_wp2;go_roundw
   case rel=>exact⟨k+1,UN,by go_num,bW⟩
   case measure=>first|(simp [intOf];done)|(simp [intOf];omega)
  ·obtain rfl:k=rc.L.length:=UN
   go_wp2;go_ret;exact⟨rfl,d' bS.o (d' bU.o ak.o)⟩
end Go.Proofs.YtjdiofjjoefnhaaGreatDoor
