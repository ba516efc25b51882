/- The reference's equality of transactions and blocks. -/
import Derived.Test.YtjknlhiimmbilaaGreatDoorMSrt
import Derived.Test.YtjknlhiimmbilaaGreatDoorMTxR
import Derived.Test.YtjknlhiimmbilaaGreatDoorMLw
set_option maxRecDepth 100000
set_option maxHeartbeats 2000000
namespace Go.Proofs.YtjknlhiimmbilaaGreatDoor
open Go.ChangeShapes Go.WideShapes Go.ChangeAt Go.RowKit Go.Sort
theorem bytes_cellJ {S:Nat→Prop}{w:World}{a:Option Addr}{len cap:Nat}{l:List Int}(h:bytesR.rel S w [.slice a len cap] l)(k:Nat)(hk:k<l.length): ∃b off,a=some ⟨b,off,none⟩∧w.cell? ⟨b,off+k,none⟩=some (.int .u8 l[k]):=by
 obtain⟨b,off,es,rfl, -, -,⟨rfl, -⟩,hca⟩:=sliceR.at h k hk;have:=hca 0 _ rfl
 exact⟨b,off,rfl,by simpa [intR]using this⟩
theorem sameBytes_any (S S':Nat→Prop)(w:World)(a b:Option Addr)(la lb ca cb:Nat)(l m:List Int)(hla:l.length=la)(hlb:m.length=lb)(h:bytesR.rel S w [.slice a la ca] l)(h':bytesR.rel S' w [.slice b lb cb] m)(hm:la≤100000000):
   Calls Tryz.prog 96 #[.slice a la ca,.slice b lb cb] w fun e w'=>e= .returned (.bool (decide (l=m)))∧Below w.heap.size w w':=by
 have H:=Hd h;have H':=Hd h';have HA:=Hd hla;have HB:=Hd hlb;clear h h'
 by_cases hll:la=lb
 · have z1:((la:Int)==(lb:Int))=true:=by rw [beq_iff_eq];omega
   have z2:((la:Int) != (lb:Int))=false:=by rw [bne_eq_false_iff_eq];omega
   have HLL:=Hd hll;clear hla hlb hll
   go_enter Tryz.func96,Tryz.ntmps96
   go_wp2_with fail
   go_loopw [5] (fun vi wr=> ∃k:Nat,k≤la∧vi= .int .i64 k∧Hid (sameTo4 l m k)∧Below w.heap.size w wr) (fun vi _=>la-(intOf vi).toNat)
   case atStart=>exact⟨0,Nat.zero_le _,rfl,fun j h=>absurd h (Nat.not_lt_zero _),Below.refl _ _⟩
   case round=>
     obtain⟨k,hk,rfl,hs,hbr⟩:=hrel
     by_cases hlt:k<la
     · obtain⟨b1,o1,rfl,c1⟩:=bytes_cellJ (bytesR.keepB H.out hbr) k (by have:=HA.out;omega)
       obtain⟨b2,o2,rfl,c2⟩:=bytes_cellJ (bytesR.keepB H'.out hbr) k (by have:=HB.out;have:=HLL.out;omega)
       have HX:Hid (l.getD k 0=l[k]'(by have:=HA.out;omega)):=getD_at4 l 0 k _
       have HY:Hid (m.getD k 0=m[k]'(by have:=HB.out;have:=HLL.out;omega)):=getD_at4 m 0 k _
       generalize l[k]'(by have:=HA.out;omega)=x at*
       generalize m[k]'(by have:=HB.out;have:=HLL.out;omega)=y at*
       have x0:=cell_in c1;have y0:=cell_in c2
       have hkb:k<lb:=by have:=HLL.out;omega
       have i0:(0:Int)≤(k:Int):=by omega
       have i1:(k:Int)<(la:Int):=by omega
       have i2:(k:Int)<(lb:Int):=by omega
       clear c1 c2;go_wp2_with fail
       refine wp_region_quiet_below (by kernel_rfl) (by kernel_rfl) ?_
       repeat (first|go_big_quiet_step (fail)|quiet_step (fail))
       refine wpQuiet_nil ?_
       intro wq hw'
       obtain⟨⟨dq,osq⟩,hw''⟩:=hw';have hbwq:=below_regrown wr dq osq;rw [←hw'']at hbwq;clear hw'' x0 y0
       by_cases hxy:x=y
       · have z1:(x==y)=true:=by simpa using hxy
         have z2:(x != y)=false:=by simpa using hxy
         have HS2:Hid (sameTo4 l m (k+1)):=fun j hj=>by
           rcases Nat.lt_or_ge j k with h|h
           · exact hs.out j h
           · obtain rfl:j=k:=by omega
             rw [HX.out,HY.out,hxy]
         clear hxy;go_wp2_with fail
         go_roundw
         case rel=>exact⟨k+1,by omega,by go_num,HS2,bnext hbr hbwq⟩
         case measure=>simp [intOf];omega
       · have z1:(x==y)=false:=by simpa using hxy
         have z2:(x != y)=true:=by simpa using hxy
         have HF:Hid (decide (l=m)=false):=decide_eq_false fun e=>hxy (by rw [←HX.out,←HY.out,e])
         clear hxy;go_wp2_with fail;go_ret
         exact⟨ret_bool HF.out.symm,bnext hbr hbwq⟩
     · obtain rfl:k=la:=by omega
       have HF:Hid (decide (l=m)=true):=decide_eq_true (same_of4 (by have:=HA.out;have:=HB.out;have:=HLL.out;omega) (by rw [HA.out];exact hs.out))
       go_wp2_with fail;go_ret
       exact⟨ret_bool HF.out.symm,hbr⟩
 · have z1:((la:Int)==(lb:Int))=false:=by rw [beq_eq_false_iff_ne];omega
   have z2:((la:Int) != (lb:Int))=true:=by rw [bne_iff_ne];omega
   have HF:Hid (decide (l=m)=false):=decide_eq_false fun e=>hll (by rw [←hla,←hlb,e])
   clear hla hlb hll
   go_enter Tryz.func96,Tryz.ntmps96
   go_wp2_with fail;go_ret
   exact⟨ret_bool HF.out.symm,Below.refl _ _⟩
end Go.Proofs.YtjknlhiimmbilaaGreatDoor
/- The reference's equality of transactions. -/
set_option maxRecDepth 100000
set_option maxHeartbeats 1000000
namespace Go.Proofs.YtjknlhiimmbilaaGreatDoor
open Go.ChangeShapes Go.WideShapes Go.ChangeAt Go.RowKit Go.Sort
theorem txIn_ok {S:Nat→Prop}{w:World}{t:TxM}{ma oa pa:Option Addr}{mc oc pc:Nat}(h:TxIn S w t ma oa pa mc oc pc):OkT t:=by
 refine⟨h.anchor,fun x hx=> ?_,fun o ho=> ?_,h.dep,h.wd,h.fee,h.acc,h.nonce⟩
 · have:=nums_in h.marks x hx
   exact okU_of this.1 this.2
 · obtain⟨j,hj,rfl⟩:=List.getElem_of_mem ho
   obtain⟨b,off,ca,cc, -, -, -,k1,k2,k3,hci, -⟩:=outs_at h.outs j hj
   exact⟨k1,k2,k3,fun x hx=>by have:=nums_in hci x hx;exact okU_of this.1 this.2⟩
structure ModT (t:TxM):Prop where
 m:t.marks.length≤1000
 o:t.outs.length≤1000
 c: ∀o∈t.outs,o.cipher.length≤1000
 p:t.proof.length≤2000000
theorem encE_len {t:TxM}(h:ModT t):(encE t).length≤20000000:=by
 have h1:=outsS_len t.outs h.c;have h2:=h.m;have h3:=h.o;have h4:=h.p;unfold encE encS
 simp only [List.length_append,digs_len,listS_len,digsAll_len]
 simp;omega
theorem encE_inj {t t':TxM}(ok:OkT t)(ok':OkT t')(h:ModT t)(h':ModT t')(ho:t.outs.length=t'.outs.length)(he:t.exp=t'.exp)(hc: ∀i (hi:i<t.outs.length) (hj:i<t'.outs.length),t.outs[i].cipher.length=t'.outs[i].cipher.length)(hq:encE t=encE t'):t=t':=by
 have h1:=h.m;have h2:=h'.m;have h3:=h.p;have h4:=h'.p
 have:=encS_inj (t:=⟨t.anchor,t.marks,t.outs,t.dep,t.wd,t.fee,t.acc,t.nonce,clampI t.exp,t.proof⟩) (t':=⟨t'.anchor,t'.marks,t'.outs,t'.dep,t'.wd,t'.fee,t'.acc,t'.nonce,clampI t'.exp,t'.proof⟩)
   ⟨ok.anchor,ok.marks,ok.outs,ok.dep,ok.wd,ok.fee,ok.acc,ok.nonce⟩ ⟨ok'.anchor,ok'.marks,ok'.outs,ok'.dep,ok'.wd,ok'.fee,ok'.acc,ok'.nonce⟩
   (by show t.marks.length≤_;omega) (by show t'.marks.length≤_;omega) (by show t.proof.length≤_;omega) (by show t'.proof.length≤_;omega) ho (by show clampI t.exp=clampI t'.exp;rw [he]) hc hq
 simp only [TxM.mk.injEq]at this
 cases t;cases t'
 simp_all
theorem ModT.of {t:TxM}(h:smallT t=true):ModT t:=by
 obtain⟨h1,h2,h3,h4⟩:=smallT_of h
 exact⟨by omega,by omega,fun o ho=>by have:=h4 o ho;omega,by omega⟩
def SamOut (t t':TxM)(w:World)(e:Ending)(w':World):Prop:= ∃b:Bool,e= .returned (.bool b)∧(b=true↔t=t')∧Below w.heap.size w w'
theorem sameTx_any (S S':Nat→Prop)(w:World)(t t':TxM)(ma oa pa ma' oa' pa':Option Addr)(mc oc pc mc' oc' pc':Nat)(h:TxIn S w t ma oa pa mc oc pc)(h':TxIn S' w t' ma' oa' pa' mc' oc' pc')(hm:ModT t)(hm':ModT t'):
   Calls Tryz.prog 67 #[.agg #[.int .u64 t.anchor,.slice ma t.marks.length mc,.slice oa t.outs.length oc,.int .u64 t.dep,.int .u64 t.wd,.int .u64 t.fee,.int .u64 t.acc,.int .u64 t.nonce,.int .i64 t.exp,.slice pa t.proof.length pc],.agg #[.int .u64 t'.anchor,.slice ma' t'.marks.length mc',.slice oa' t'.outs.length oc',.int .u64 t'.dep,.int .u64 t'.wd,.int .u64 t'.fee,.int .u64 t'.acc,.int .u64 t'.nonce,.int .i64 t'.exp,.slice pa' t'.proof.length pc']] w (SamOut t t' w):=by
 have hbA:=bnew (bnew (Below.refl w.heap.size w) (.cells #[.int .u64 t.anchor,.slice ma t.marks.length mc,.slice oa t.outs.length oc,.int .u64 t.dep,.int .u64 t.wd,.int .u64 t.fee,.int .u64 t.acc,.int .u64 t.nonce,.int .i64 t.exp,.slice pa t.proof.length pc] 111)) (.cells #[.int .u64 t'.anchor,.slice ma' t'.marks.length mc',.slice oa' t'.outs.length oc',.int .u64 t'.dep,.int .u64 t'.wd,.int .u64 t'.fee,.int .u64 t'.acc,.int .u64 t'.nonce,.int .i64 t'.exp,.slice pa' t'.proof.length pc'] 111);have HX:=Hd (two_new w (.cells #[.int .u64 t.anchor,.slice ma t.marks.length mc,.slice oa t.outs.length oc,.int .u64 t.dep,.int .u64 t.wd,.int .u64 t.fee,.int .u64 t.acc,.int .u64 t.nonce,.int .i64 t.exp,.slice pa t.proof.length pc] 111) (.cells #[.int .u64 t'.anchor,.slice ma' t'.marks.length mc',.slice oa' t'.outs.length oc',.int .u64 t'.dep,.int .u64 t'.wd,.int .u64 t'.fee,.int .u64 t'.acc,.int .u64 t'.nonce,.int .i64 t'.exp,.slice pa' t'.proof.length pc'] 111));have HOKT:=Hd (txIn_ok h);have HOKT':=Hd (txIn_ok h');have H:=Hd (h.keepB hbA);have H':=Hd (h'.keepB hbA);have HB:=Hd hbA;have HM:=Hd hm;have HM':=Hd hm';have g1:=hm.o;have g2:=hm'.o;clear hbA h h' hm hm'
 go_enter Tryz.func67,Tryz.ntmps67
 go_upto_region 1 with(fail)
 generalize (w.alloc (.cells #[.int .u64 t.anchor,.slice ma t.marks.length mc,.slice oa t.outs.length oc,.int .u64 t.dep,.int .u64 t.wd,.int .u64 t.fee,.int .u64 t.acc,.int .u64 t.nonce,.int .i64 t.exp,.slice pa t.proof.length pc] 111)).alloc (.cells #[.int .u64 t'.anchor,.slice ma' t'.marks.length mc',.slice oa' t'.outs.length oc',.int .u64 t'.dep,.int .u64 t'.wd,.int .u64 t'.fee,.int .u64 t'.acc,.int .u64 t'.nonce,.int .i64 t'.exp,.slice pa' t'.proof.length pc'] 111)=W at*;obtain⟨B0,hB0⟩: ∃x,w.heap.size=x:=⟨_,rfl⟩;have HB0:=Hd hB0;rw [hB0]at HX⊢;clear hB0;obtain⟨x0,x1⟩:=box_cells HX.out.2;obtain⟨y0,y1⟩:=box_cells HX.out.1
 by_cases p1:t.outs.length=t'.outs.length
 rotate_left
 · have z1:((t.outs.length:Int) != (t'.outs.length:Int))=true:=by rw [bne_iff_ne];omega
   have z2:((t.outs.length:Int)==(t'.outs.length:Int))=false:=by rw [beq_eq_false_iff_ne];omega
   have HF:Hid (t≠t'):=fun e=>p1 (by rw [e])
   clear p1;go_wp2_with fail;go_ret
   exact⟨_,rfl,⟨fun h=>by simp at h,fun h=>absurd h HF.out⟩,HB.out⟩
 have z1:((t.outs.length:Int) != (t'.outs.length:Int))=false:=by rw [bne_eq_false_iff_eq];omega
 have z2:((t.outs.length:Int)==(t'.outs.length:Int))=true:=by rw [beq_iff_eq];omega
 by_cases p2:t.exp=t'.exp
 rotate_left
 · have z3:(t.exp != t'.exp)=true:=by rw [bne_iff_ne];exact p2
   have z4:(t.exp==t'.exp)=false:=by rw [beq_eq_false_iff_ne];exact p2
   have HF:Hid (t≠t'):=fun e=>p2 (by rw [e])
   clear p1 p2;go_wp2_with fail;go_ret
   exact⟨_,rfl,⟨fun h=>by simp at h,fun h=>absurd h HF.out⟩,HB.out⟩
 have z3:(t.exp != t'.exp)=false:=by rw [bne_eq_false_iff_eq];exact p2
 have z4:(t.exp==t'.exp)=true:=by rw [beq_iff_eq];exact p2
 have HP1:=Hd p1;have HP2:=Hd p2;clear p1 p2;go_wp2_with fail;clear x0 x1 y0 y1 z1 z2 z3 z4
 go_loopw [5] (fun vi wr=> ∃i:Nat,i≤t.outs.length∧vi= .int .i64 i∧Hid (∀j (hj:j<t.outs.length) (hj':j<t'.outs.length),j<i→t.outs[j].cipher.length=t'.outs[j].cipher.length)∧Below W.heap.size W wr) (fun vi _=>t.outs.length-(intOf vi).toNat)
 case atStart=>exact⟨0,Nat.zero_le _,rfl,fun j _ _ h=>absurd h (Nat.not_lt_zero _),Below.refl _ _⟩
 case round=>
   obtain⟨i,hi,rfl,HC,hbr⟩:=hrel;have HX1:=Hd (box_after hbr HX.out.2);have HX2:=Hd (box_after hbr HX.out.1)
   by_cases hlt:i<t.outs.length
   · have hlt':i<t'.outs.length:=by have:=HP1.out;omega
     obtain⟨b1,o1,ca,cc,rfl, -, -, -, -, -, -, -, -, -,q3⟩:=outs_at (outsR.keepB H.out.outs hbr) i hlt;obtain⟨b2,o2,ca',cc',rfl, -, -, -, -, -, -, -, -, -,q3'⟩:=outs_at (outsR.keepB H'.out.outs hbr) i hlt'
     have HNE:Hid (t.outs[i].cipher.length≠t'.outs[i].cipher.length→t≠t'):=fun h e=>h (by subst e;rfl)
     have HNX:Hid (t.outs[i].cipher.length=t'.outs[i].cipher.length→ ∀j (hj:j<t.outs.length) (hj':j<t'.outs.length),j<i+1→t.outs[j].cipher.length=t'.outs[j].cipher.length):=fun h j hj hj' hji=>by
       by_cases e:j=i
       · subst e;exact h
       · exact HC.out j hj hj' (by omega)
     generalize t.outs[i]=u at*;generalize t'.outs[i]=u' at*;have c0:=cell_in q3;have c1:=cell_in q3';have x0:=box_regrown HX1.out;have y0:=box_regrown HX2.out
     have i0:(0:Int)≤(i:Int):=by omega
     have i1:(i:Int)<(t.outs.length:Int):=by omega
     have i2:(i:Int)<(t'.outs.length:Int):=by omega
     obtain⟨v0,v1⟩:=box_cells HX1.out;clear q3 q3' HC
     go_upto_region 6 with(fail)
     clear v0 v1;go_wp2_with fail
     refine wp_region_quiet_below (by kernel_rfl) (by kernel_rfl) ?_
     repeat (first|go_big_quiet_step (fail)|quiet_step (fail))
     refine wpQuiet_nil ?_
     intro wx hw'
     obtain⟨⟨dq,osq⟩,hw''⟩:=hw';have hbwx:=below_regrown wr dq osq;rw [←hw'']at hbwx;clear hw'' x0 y0 c0 c1
     by_cases hcc:u.cipher.length=u'.cipher.length
     · have z1:((u.cipher.length:Int) != (u'.cipher.length:Int))=false:=by rw [bne_eq_false_iff_eq];omega
       have z2:((u.cipher.length:Int)==(u'.cipher.length:Int))=true:=by rw [beq_iff_eq];omega
       have HC2:=Hd (HNX.out hcc);clear hcc;go_wp2_with fail
       go_roundw
       case rel=>exact⟨i+1,by omega,by go_num,HC2,bnext hbr hbwx⟩
       case measure=>simp [intOf];omega
     · have z1:((u.cipher.length:Int) != (u'.cipher.length:Int))=true:=by rw [bne_iff_ne];omega
       have z2:((u.cipher.length:Int)==(u'.cipher.length:Int))=false:=by rw [beq_eq_false_iff_ne];omega
       have HF:=Hd (HNE.out hcc);clear hcc;go_wp2_with fail;go_ret
       exact⟨_,rfl,⟨fun h=>by simp at h,fun h=>absurd h HF.out⟩,bnext HB.out (bnext hbr hbwx)⟩
   · obtain rfl:i=t.outs.length:=by omega
     have H1:=Hd (H.out.keepB hbr);have H1':=Hd (H'.out.keepB hbr)
     have HCC:Hid (∀j (hj:j<t.outs.length) (hj':j<t'.outs.length),t.outs[j].cipher.length=t'.outs[j].cipher.length):=fun j hj hj'=>HC.out j hj hj' hj
     have HBR:=Hd hbr;have HL1:=Hd (encE_len HM.out);obtain⟨x0,x1⟩:=box_cells HX1.out;obtain⟨y0,y1⟩:=box_cells HX2.out;clear hbr HC
     go_upto_region 8 with(fail)
     clear x0 x1 y0 y1
     go_region_held3 (fun w'=>Below wr.heap.size wr w'∧(∀o,w'.cell? ⟨B0,o,none⟩=(#[.int .u64 t.anchor,.slice ma t.marks.length mc,.slice oa t.outs.length oc,.int .u64 t.dep,.int .u64 t.wd,.int .u64 t.fee,.int .u64 t.acc,.int .u64 t.nonce,.int .i64 t.exp,.slice pa t.proof.length pc]:Array Value)[o]?)∧(∀o,w'.cell? ⟨B0+1,o,none⟩=(#[.int .u64 t'.anchor,.slice ma' t'.marks.length mc',.slice oa' t'.outs.length oc',.int .u64 t'.dep,.int .u64 t'.wd,.int .u64 t'.fee,.int .u64 t'.acc,.int .u64 t'.nonce,.int .i64 t'.exp,.slice pa' t'.proof.length pc']:Array Value)[o]?))
       (first
         |with_reducible exact BkK2.drew (BkK2.of HX1.out HX2.out (Below.refl _ _))
         |with_reducible exact HK1.out
         |with_reducible exact HK2.out
         |with_reducible exact HK3.out)
       (first
         |(go_at_call 88;refine(rTxBytes_gen _ _ t' ma' oa' pa' mc' oc' pc' (H1'.out.keepB HK1.out.1) HM'.out.m HM'.out.o HM'.out.c HM'.out.p).mono ?_;rintro e w5 ⟨a5,c5,rfl,hr5,hb5⟩
           have HR5:=Hd hr5;have HR4':=Hd (bytesR.keepB HR4.out hb5);have HK2:=Hd (BkK2.of HX1.out HX2.out (bnext HK1.out.1 hb5));clear hr5)
         |(go_at_call 88;refine(rTxBytes_gen _ _ t ma oa pa mc oc pc (H1.out.keepB (‹Below wr.heap.size wr _∧_›).1) HM.out.m HM.out.o HM.out.c HM.out.p).mono ?_;rintro e w4 ⟨a4,c4,rfl,hr4,hb4⟩
           have HR4:=Hd hr4;have HK1:=Hd (BkK2.of HX1.out HX2.out (bnext (‹Below wr.heap.size wr _∧_›).1 hb4));clear hr4)
         |(go_at_call 96;refine(sameBytes_any _ _ _ a4 a5 _ _ c4 c5 _ _ rfl rfl HR4'.out HR5.out (by have:=HL1.out;omega)).mono ?_;rintro e w6 ⟨rfl,hb6⟩
           have HK3:=Hd (BkK2.of HX1.out HX2.out (bnext HK2.out.1 hb6))))
     go_wp2_with fail;go_ret
     refine⟨_,rfl,?_,bnext HB.out (bnext HBR.out HK3.out.1)⟩
     rw [decide_eq_true_eq]
     exact⟨fun hq=>encE_inj HOKT.out HOKT'.out HM.out HM'.out HP1.out HP2.out HCC.out hq,fun e=>by rw [e]⟩
end Go.Proofs.YtjknlhiimmbilaaGreatDoor
/- The reference's equality of blocks. -/
set_option maxRecDepth 100000
set_option maxHeartbeats 2000000
namespace Go.Proofs.YtjknlhiimmbilaaGreatDoor
open Go.ChangeShapes Go.WideShapes Go.ChangeAt Go.RowKit Go.Sort
def eqO (a b:OutM):Bool:=a.commit==b.commit&&(a.p0==b.p0&&(a.p1==b.p1&&a.cipher==b.cipher))
theorem eqO_iff (a b:OutM):eqO a b=true↔a=b:=by
 cases a;cases b
 simp [eqO]
def eqOs:List OutM→List OutM→Bool
 | [],[]=>true
 |a::l,b::m=>eqO a b&&eqOs l m
 |_,_=>false
theorem eqOs_iff: ∀(l m:List OutM),eqOs l m=true↔l=m
 | [],[]=>by simp [eqOs]
 | [],_::_=>by simp [eqOs]
 |_::_,[]=>by simp [eqOs]
 |a::l,b::m=>by simp [eqOs,eqO_iff,eqOs_iff l m]
def eqT (t t':TxM):Bool:=t.anchor==t'.anchor&&(t.marks==t'.marks&&(eqOs t.outs t'.outs&&(t.dep==t'.dep&&(t.wd==t'.wd&&(t.fee==t'.fee&&(t.acc==t'.acc&&(t.nonce==t'.nonce&&(t.exp==t'.exp&&t.proof==t'.proof))))))))
theorem eqT_iff (t t':TxM):eqT t t'=true↔t=t':=by
 cases t;cases t'
 simp [eqT,eqOs_iff]
theorem sameTx_eq (S S':Nat→Prop)(w:World)(t t':TxM)(ma oa pa ma' oa' pa':Option Addr)(mc oc pc mc' oc' pc':Nat)(h:TxIn S w t ma oa pa mc oc pc)(h':TxIn S' w t' ma' oa' pa' mc' oc' pc')(hm:ModT t)(hm':ModT t'):
   Calls Tryz.prog 67 #[.agg #[.int .u64 t.anchor,.slice ma t.marks.length mc,.slice oa t.outs.length oc,.int .u64 t.dep,.int .u64 t.wd,.int .u64 t.fee,.int .u64 t.acc,.int .u64 t.nonce,.int .i64 t.exp,.slice pa t.proof.length pc],.agg #[.int .u64 t'.anchor,.slice ma' t'.marks.length mc',.slice oa' t'.outs.length oc',.int .u64 t'.dep,.int .u64 t'.wd,.int .u64 t'.fee,.int .u64 t'.acc,.int .u64 t'.nonce,.int .i64 t'.exp,.slice pa' t'.proof.length pc']] w fun e w'=>e= .returned (.bool (eqT t t'))∧Below w.heap.size w w':=
 (sameTx_any S S' w t t' ma oa pa ma' oa' pa' mc oc pc mc' oc' pc' h h' hm hm').mono fun e w' ⟨b,he,hb,hbel⟩=>by
   refine⟨?_,hbel⟩
   have:b=eqT t t':=by
     cases hq:eqT t t' with
     |true=>exact hb.2 ((eqT_iff t t').1 hq)
     |false=>
      cases hbb:b with
      |false=>rfl
      |true=>
       have:=(eqT_iff t t').2 (hb.1 hbb);rw [hq]at this
       simp at this
   rw [he,this]
def eqTs:List TxM→List TxM→Bool
 | [],[]=>true
 |a::l,b::m=>eqT a b&&eqTs l m
 |_,_=>false
theorem eqTs_iff: ∀(l m:List TxM),eqTs l m=true↔l=m
 | [],[]=>by simp [eqTs]
 | [],_::_=>by simp [eqTs]
 |_::_,[]=>by simp [eqTs]
 |a::l,b::m=>by simp [eqTs,eqT_iff,eqTs_iff l m]
def eqB (b b':BlkM):Bool:=b.parent==b'.parent&&(b.height==b'.height&&(b.miner==b'.miner&&(b.work==b'.work&&(b.nonce==b'.nonce&&eqTs b.txs b'.txs))))
theorem eqB_iff (b b':BlkM):eqB b b'=true↔b=b':=by
 cases b;cases b'
 simp [eqB,eqTs_iff]
theorem eqB_no {b b':BlkM}(h:b≠b'):eqB b b'=false:=by
 cases hq:eqB b b' with
 |false=>rfl
 |true=>exact absurd ((eqB_iff b b').1 hq) h
theorem sameBlk_any (S S':Nat→Prop)(w:World)(b b':BlkM)(xa xa':Option Addr)(xc xc':Nat)(h:BlkIn S w b xa xc)(h':BlkIn S' w b' xa' xc')(hm: ∀t∈b.txs,ModT t)(hm': ∀t∈b'.txs,ModT t)(hl:b.txs.length≤1000):
   Calls Tryz.prog 36 #[.agg #[.int .u64 b.parent,.int .i64 b.height,.int .u64 b.miner,.int .u64 b.work,.int .u64 b.nonce,.slice xa b.txs.length xc],.agg #[.int .u64 b'.parent,.int .i64 b'.height,.int .u64 b'.miner,.int .u64 b'.work,.int .u64 b'.nonce,.slice xa' b'.txs.length xc']] w fun e w'=>e= .returned (.bool (eqB b b'))∧Below w.heap.size w w':=by
 have hbA:=bnew (bnew (Below.refl w.heap.size w) (.cells #[.int .u64 b.parent,.int .i64 b.height,.int .u64 b.miner,.int .u64 b.work,.int .u64 b.nonce,.slice xa b.txs.length xc] 48)) (.cells #[.int .u64 b'.parent,.int .i64 b'.height,.int .u64 b'.miner,.int .u64 b'.work,.int .u64 b'.nonce,.slice xa' b'.txs.length xc'] 48);have HX:=Hd (two_new w (.cells #[.int .u64 b.parent,.int .i64 b.height,.int .u64 b.miner,.int .u64 b.work,.int .u64 b.nonce,.slice xa b.txs.length xc] 48) (.cells #[.int .u64 b'.parent,.int .i64 b'.height,.int .u64 b'.miner,.int .u64 b'.work,.int .u64 b'.nonce,.slice xa' b'.txs.length xc'] 48));have H:=Hd (h.keepB hbA);have H':=Hd (h'.keepB hbA);have HB:=Hd hbA;have HM:=Hd hm;have HM':=Hd hm';clear hbA h h' hm hm'
 go_enter Tryz.func36,Tryz.ntmps36
 go_upto_region 1 with(fail)
 generalize (w.alloc (.cells #[.int .u64 b.parent,.int .i64 b.height,.int .u64 b.miner,.int .u64 b.work,.int .u64 b.nonce,.slice xa b.txs.length xc] 48)).alloc (.cells #[.int .u64 b'.parent,.int .i64 b'.height,.int .u64 b'.miner,.int .u64 b'.work,.int .u64 b'.nonce,.slice xa' b'.txs.length xc'] 48)=W at*;obtain⟨B0,hB0⟩: ∃x,w.heap.size=x:=⟨_,rfl⟩;have HB0:=Hd hB0;rw [hB0]at HX⊢;clear hB0;obtain⟨x0,x1⟩:=box_cells HX.out.2;obtain⟨y0,y1⟩:=box_cells HX.out.1
 by_cases p0:b.parent=b'.parent
 rotate_left
 · have z0:(b.parent != b'.parent)=true:=by rw [bne_iff_ne];exact p0
   have v0:(b.parent==b'.parent)=false:=by rw [beq_eq_false_iff_ne];exact p0
   have HF:Hid (eqB b b'=false):=eqB_no fun e=>p0 (by rw [e])
   clear p0;go_wp2_with fail;go_ret
   exact⟨by rw [HF.out];rfl,HB.out⟩
 have z0:(b.parent != b'.parent)=false:=by rw [bne_eq_false_iff_eq];exact p0
 have v0:(b.parent==b'.parent)=true:=by rw [beq_iff_eq];exact p0
 have HP0:=Hd p0;clear p0
 by_cases p1:b.height=b'.height
 rotate_left
 · have z1:(b.height != b'.height)=true:=by rw [bne_iff_ne];exact p1
   have v1:(b.height==b'.height)=false:=by rw [beq_eq_false_iff_ne];exact p1
   have HF:Hid (eqB b b'=false):=eqB_no fun e=>p1 (by rw [e])
   clear p1;go_wp2_with fail;go_ret
   exact⟨by rw [HF.out];rfl,HB.out⟩
 have z1:(b.height != b'.height)=false:=by rw [bne_eq_false_iff_eq];exact p1
 have v1:(b.height==b'.height)=true:=by rw [beq_iff_eq];exact p1
 have HP1:=Hd p1;clear p1
 by_cases p2:b.miner=b'.miner
 rotate_left
 · have z2:(b.miner != b'.miner)=true:=by rw [bne_iff_ne];exact p2
   have v2:(b.miner==b'.miner)=false:=by rw [beq_eq_false_iff_ne];exact p2
   have HF:Hid (eqB b b'=false):=eqB_no fun e=>p2 (by rw [e])
   clear p2;go_wp2_with fail;go_ret
   exact⟨by rw [HF.out];rfl,HB.out⟩
 have z2:(b.miner != b'.miner)=false:=by rw [bne_eq_false_iff_eq];exact p2
 have v2:(b.miner==b'.miner)=true:=by rw [beq_iff_eq];exact p2
 have HP2:=Hd p2;clear p2
 by_cases p3:b.work=b'.work
 rotate_left
 · have z3:(b.work != b'.work)=true:=by rw [bne_iff_ne];exact p3
   have v3:(b.work==b'.work)=false:=by rw [beq_eq_false_iff_ne];exact p3
   have HF:Hid (eqB b b'=false):=eqB_no fun e=>p3 (by rw [e])
   clear p3;go_wp2_with fail;go_ret
   exact⟨by rw [HF.out];rfl,HB.out⟩
 have z3:(b.work != b'.work)=false:=by rw [bne_eq_false_iff_eq];exact p3
 have v3:(b.work==b'.work)=true:=by rw [beq_iff_eq];exact p3
 have HP3:=Hd p3;clear p3
 by_cases p4:b.nonce=b'.nonce
 rotate_left
 · have z4:(b.nonce != b'.nonce)=true:=by rw [bne_iff_ne];exact p4
   have v4:(b.nonce==b'.nonce)=false:=by rw [beq_eq_false_iff_ne];exact p4
   have HF:Hid (eqB b b'=false):=eqB_no fun e=>p4 (by rw [e])
   clear p4;go_wp2_with fail;go_ret
   exact⟨by rw [HF.out];rfl,HB.out⟩
 have z4:(b.nonce != b'.nonce)=false:=by rw [bne_eq_false_iff_eq];exact p4
 have v4:(b.nonce==b'.nonce)=true:=by rw [beq_iff_eq];exact p4
 have HP4:=Hd p4;clear p4
 by_cases p5:b.txs.length=b'.txs.length
 rotate_left
 · have z5:((b.txs.length:Int) != (b'.txs.length:Int))=true:=by rw [bne_iff_ne];omega
   have v5:((b.txs.length:Int)==(b'.txs.length:Int))=false:=by rw [beq_eq_false_iff_ne];omega
   have HF:Hid (eqB b b'=false):=eqB_no fun e=>p5 (by rw [e])
   clear p5;go_wp2_with fail;go_ret
   exact⟨by rw [HF.out];rfl,HB.out⟩
 have z5:((b.txs.length:Int) != (b'.txs.length:Int))=false:=by rw [bne_eq_false_iff_eq];omega
 have v5:((b.txs.length:Int)==(b'.txs.length:Int))=true:=by rw [beq_iff_eq];omega
 have HP5:=Hd p5;clear p5;go_wp2_with fail;clear x0 x1 y0 y1 z0 z1 z2 z3 z4 z5 v0 v1 v2 v3 v4 v5
 go_loopw [5] (fun vi wr=> ∃i:Nat,i≤b.txs.length∧vi= .int .i64 i∧Hid (∀j (hj:j<b.txs.length) (hj':j<b'.txs.length),j<i→b.txs[j]=b'.txs[j])∧Below W.heap.size W wr) (fun vi _=>b.txs.length-(intOf vi).toNat)
 case atStart=>exact⟨0,Nat.zero_le _,rfl,fun j _ _ h=>absurd h (Nat.not_lt_zero _),Below.refl _ _⟩
 case round=>
   obtain⟨i,hi,rfl,HC,hbr⟩:=hrel;have HX1:=Hd (box_after hbr HX.out.2);have HX2:=Hd (box_after hbr HX.out.1);obtain⟨v0,v1⟩:=box_cells HX1.out
   by_cases hlt:i<b.txs.length
   · have hlt':i<b'.txs.length:=by have:=HP5.out;omega
     obtain⟨b1,o1,ma,oa,pa,mc,oc,pc,rfl, -,ht,c0,c1,c2,c3,c4,c5,c6,c7,c8,c9⟩:=txs_at (txsR.keepB H.out.txs hbr) i hlt;obtain⟨b2,o2,ma',oa',pa',mc',oc',pc',rfl, -,ht',e0,e1,e2,e3,e4,e5,e6,e7,e8,e9⟩:=txs_at (txsR.keepB H'.out.txs hbr) i hlt';have HMT:=Hd (HM.out _ (List.getElem_mem hlt));have HMT':=Hd (HM'.out _ (List.getElem_mem hlt'))
     have HNE:Hid (b.txs[i]≠b'.txs[i]→b≠b'):=fun h e=>h (by subst e;rfl)
     have HNX:Hid (b.txs[i]=b'.txs[i]→ ∀j (hj:j<b.txs.length) (hj':j<b'.txs.length),j<i+1→b.txs[j]=b'.txs[j]):=fun h j hj hj' hji=>by
       by_cases e:j=i
       · subst e;exact h
       · exact HC.out j hj hj' (by omega)
     generalize b.txs[i]=t at*;generalize b'.txs[i]=t' at*;have HT:=Hd ht;have HT':=Hd ht'
     go_upto_region 6 with(fail)
     clear v0 v1
     have hc: ∀(d:Nat) (os:Array Obj),_:=fun d os=>sameTx_eq _ _ (grow (redrawn wr d) os) t t' ma oa pa ma' oa' pa' mc oc pc mc' oc' pc' (HT.out.keepB (below_regrown wr d os)) (HT'.out.keepB (below_regrown wr d os)) HMT.out HMT'.out
     have x0:=box_regrown HX1.out;have y0:=box_regrown HX2.out;have c0':=cell_in c0;have e0':=cell_in e0;have c1':=cell_in c1;have e1':=cell_in e1;have c2':=cell_in c2;have e2':=cell_in e2;have c3':=cell_in c3;have e3':=cell_in e3;have c4':=cell_in c4;have e4':=cell_in e4;have c5':=cell_in c5;have e5':=cell_in e5;have c6':=cell_in c6;have e6':=cell_in e6;have c7':=cell_in c7;have e7':=cell_in e7;have c8':=cell_in c8;have e8':=cell_in e8;have c9':=cell_in c9;have e9':=cell_in e9
     have i0:(0:Int)≤(i:Int):=by omega
     have i1:(i:Int)<(b.txs.length:Int):=by omega
     have i2:(i:Int)<(b'.txs.length:Int):=by omega
     clear ht ht' c0 c1 c2 c3 c4 c5 c6 c7 c8 c9 e0 e1 e2 e3 e4 e5 e6 e7 e8 e9 HC;go_wp2_with fail
     refine wp_region_quiet_below (by kernel_rfl) (by kernel_rfl) ?_
     repeat (first|go_big_quiet_step (exact Calls.regrown_of (hc _ _))|quiet_step (exact Calls.regrown_of (hc _ _)))
     refine wpQuiet_nil ?_
     intro wx hw'
     obtain⟨⟨dq,osq⟩,hw''⟩:=hw';have hbwx:=below_regrown wr dq osq;rw [←hw'']at hbwx;clear hw'' x0 y0 hc c0' e0' c1' e1' c2' e2' c3' e3' c4' e4' c5' e5' c6' e6' c7' e7' c8' e8' c9' e9'
     cases hq:eqT t t' with
     |true=>
      have HC2:=Hd (HNX.out ((eqT_iff t t').1 hq));clear hq;go_wp2_with fail
      go_roundw
      case rel=>exact⟨i+1,by omega,by go_num,HC2,bnext hbr hbwx⟩
      case measure=>simp [intOf];omega
     |false=>
      have HF:Hid (eqB b b'=false):=eqB_no (HNE.out fun e=>by rw [(eqT_iff t t').2 e]at hq;simp at hq)
      clear hq;go_wp2_with fail;go_ret
      exact⟨by rw [HF.out];rfl,bnext HB.out (bnext hbr hbwx)⟩
   · obtain rfl:i=b.txs.length:=by omega
     have HF:Hid (eqB b b'=true):=(eqB_iff b b').2 (by
       have htx:b.txs=b'.txs:=List.ext_getElem HP5.out fun j h1 h2=>HC.out j h1 h2 h1
       have q0:=HP0.out;have q1:=HP1.out;have q2:=HP2.out;have q3:=HP3.out;have q4:=HP4.out
       cases b;cases b'
       simp_all)
     go_wp2_with fail;go_ret
     exact⟨by rw [HF.out];rfl,bnext HB.out hbr⟩
end Go.Proofs.YtjknlhiimmbilaaGreatDoor
