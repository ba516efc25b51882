/- Replaying the best chain, in plain Lean: each of its blocks is taken by a new chain and by a new state. -/
import Derived.Test.YtjknlhiimmbilaaGreatDoorLwC
import Derived.Test.YtjknlhiimmbilaaGreatDoorMSn
import Derived.Test.YtjknlhiimmbilaaGreatDoorMPoB
import Derived.Test.YtjknlhiimmbilaaGreatDoorMFld
import Derived.Test.YtjknlhiimmbilaaGreatDoorMRd
import Derived.Test.YtjknlhiimmbilaaGreatDoorMKit
import Derived.Laws.BytesArg
import Derived.Lib.ConvBytes
set_option maxRecDepth 100000
namespace Go.Proofs.YtjknlhiimmbilaaGreatDoor
open Go.ChangeShapes Go.WideShapes Go.ChangeAt Go.RowKit Go.Sort
def ChkI (r:RuM)(m:ChM):Prop:= ∀e∈m.L,blkCheck r.work e.b=0∧txErr r e.b.txs=0∧(e.b.height=1→e.b.parent=0)∧smallBk e.b=true
theorem chk_new (r:RuM):ChkI r ⟨[],[],0,0⟩:=fun e he=>by simp at he
theorem chk_sub {r:RuM}{m:ChM}{b:BlkM}(h:ChkI r m)(s:SubOK r m b)(hsm:smallBk b=true)(ya:Option Addr)(yc:Nat):ChkI r (subM r m b ya yc):=fun e he=>by
 rw [subM_L]at he
 rcases List.mem_append.1 he with h1|h1
 · exact h e h1
 · obtain rfl:=List.mem_singleton.1 h1
   refine⟨s.chk,s.txs,fun hh=> ?_,hsm⟩
   have hp:=s.par;unfold parentE at hp;have hh':b.height=1:=hh;rw [if_pos hh']at hp
   split at hp
   · assumption
   · simp at hp
theorem ways_same {L:List StB}{l l':List Int}(h:IsWay L l)(h':IsWay L l'): ∀(n:Nat),n<l.length→n<l'.length→l.getD n 0=l'.getD n 0→l.take (n+1)=l'.take (n+1)
 |n,h1,h2,he=>by
  have e1:l.getD n 0=l[n]:=by rw [List.getD_eq_getElem?_getD,List.getElem?_eq_getElem h1];rfl
  have e2:l'.getD n 0=l'[n]:=by rw [List.getD_eq_getElem?_getD,List.getElem?_eq_getElem h2];rfl
  rw [e1,e2]at he;rw [List.take_succ_eq_append_getElem h1,List.take_succ_eq_append_getElem h2,he]
  congr 1
  cases n with
  |zero=>simp
  |succ n=>
   obtain⟨e,g1, -,g2⟩:=h (n+1) h1;obtain⟨e',g3, -,g4⟩:=h' (n+1) h2;rw [he,g3]at g1;obtain rfl:=Option.some.inj g1
   have:=(g2 (by omega)).symm.trans (g4 (by omega))
   rw [Nat.add_sub_cancel]at this
   exact ways_same h h' n (by omega) (by omega) this
theorem comN_self: ∀l:List Int,comN l l=l.length
 | []=>by unfold comN;rfl
 |a::l=>by unfold comN;rw [if_pos rfl,comN_self l];rfl
theorem sub_of {r:RuM}{m:ChM}{b:BlkM}(h:SubOK r m b):subE r m b=0:=by
 unfold subE
 rw [if_pos h.chk,h.new,if_pos h.par,h.fin,if_pos h.txs,h.app];rfl
theorem getD_lt (l:List Int)(k:Nat)(h:k<l.length):l.getD k 0=l[k]:=by rw [List.getD_eq_getElem?_getD,List.getElem?_eq_getElem h];rfl
theorem best_at {r:RuM}{m:ChM}(ok:ChOK r m)(hc:ChkI r m)(k:Nat)(hk:k<m.best.length):
   ∃e,findS m.L m.best[k]=some e∧e.b.height=k+1∧e.id=m.best[k]∧blkID e.b=m.best[k]∧(0<k→e.b.parent=m.best.getD (k-1) 0)∧(blksS m.L m.best)[k]? =some e.b∧BlkOK e.b∧e.b.work=r.work∧blkCheck r.work e.b=0∧txErr r e.b.txs=0∧(e.b.height=1→e.b.parent=0)∧smallBk e.b=true:=by
 obtain⟨e,h1,h2,h3⟩:=ok.best k hk;obtain⟨h4,h5⟩:=findS_some h1;obtain⟨h6,h7,h8⟩:=ok.blk e h4;obtain⟨c1,c2,c3,c4⟩:=hc e h4
 refine⟨e,h1,h2,h5,by rw [←h7,h5],h3,?_,h6,h8,c1,c2,c3,c4⟩
 unfold blksS;rw [List.getElem?_map,List.getElem?_eq_getElem hk]
 show some (blkS m.L m.best[k])=_
 unfold blkS
 rw [h1];rfl
structure RepI (r:RuM)(m md:ChM)(i:Nat):Prop where
 le:i≤m.best.length
 best:md.best=m.best.take i
 len:md.L.length=i
 at': ∀(k:Nat) (h:k<md.L.length),∃e,findS m.L (m.best.getD k 0)=some e∧md.L[k].id=m.best.getD k 0∧md.L[k].b=e.b∧md.L[k].tot=((k:Int)+1)*r.work
theorem rep_zero (r:RuM)(m:ChM):RepI r m ⟨[],[],0,0⟩ 0:=⟨Nat.zero_le _,rfl,rfl,fun k h=>by simp at h⟩
section
variable {r:RuM} {m md:ChM} {i:Nat}
theorem RepI.find (h:RepI r m md i)(okd:ChOK r md)(k:Nat)(hk:k<i): ∃e,findS md.L (m.best.getD k 0)=some (md.L[k]'(by rw [h.len];exact hk))∧findS m.L (m.best.getD k 0)=some e∧(md.L[k]'(by rw [h.len];exact hk)).b=e.b∧(md.L[k]'(by rw [h.len];exact hk)).tot=((k:Int)+1)*r.work:=by
 have hl:k<md.L.length:=by rw [h.len];exact hk
 obtain⟨e,h1,h2,h3,h4⟩:=h.at' k hl
 refine⟨e,?_,h1,h3,h4⟩
 rw [←h2]
 exact okd.uniq _ (List.getElem_mem hl)
theorem RepI.blks (h:RepI r m md i)(okd:ChOK r md):blksS md.L md.best=(blksS m.L m.best).take i:=by
 rw [h.best];unfold blksS;rw [←List.map_take]
 refine List.map_congr_left fun x hx=> ?_
 obtain⟨k,hk,rfl⟩:=List.getElem_of_mem hx;rw [List.length_take]at hk
 obtain⟨e,h1,h2,h3, -⟩:=h.find okd k (by omega)
 rw [getD_lt _ _ (by omega)]at h1 h2
 rw [List.getElem_take];unfold blkS;rw [h1,h2]
 exact h3
theorem rep_next (h:RepI r m md i)(ok:ChOK r m)(hc:ChkI r m)(okd:ChOK r md)(hr:RuOK r)(hi:i<m.best.length)(hb:m.best.length≤1000)(e:StB)(he:findS m.L m.best[i]=some e):
   SubOK r md e.b∧blkID e.b=m.best[i]∧cntU md e.b=0∧cntA md e.b=1∧applyE r (runW r ((blksS m.L m.best).take i)) e.b=0∧(blksS m.L m.best)[i]? =some e.b∧BlkOK e.b∧smallBk e.b=true∧
     ∀(ya:Option Addr) (yc:Nat),RepI r m (subM r md e.b ya yc) (i+1)∧tipS (subM r md e.b ya yc)=m.best[i]∧(subM r md e.b ya yc).best.length=i+1:=by
 obtain⟨e',h1,h2,h3,h4,h5,h6,h7,h8,h9,h10,h11,h12⟩:=best_at ok hc i hi;rw [he]at h1;obtain rfl:=Option.some.inj h1
 have hml:md.best.length=i:=by rw [h.best,List.length_take];omega
 have hnew:findS md.L (blkID e.b)=none:=by
   cases hf:findS md.L (blkID e.b)with
   |none=>rfl
   |some x=>
    exfalso
    obtain⟨g1,g2⟩:=findS_some hf;obtain⟨k,hk,rfl⟩:=List.getElem_of_mem g1
    have hki:k<i:=by rw [h.len]at hk;exact hk
    obtain⟨ek,k1,k2,k3, -⟩:=h.at' k hk;rw [k2,h4]at g2
    obtain⟨ey,y1,y2, -⟩:=best_at ok hc k (by omega)
    rw [getD_lt _ _ (by omega)]at g2
    rw [g2,he]at y1;obtain rfl:=Option.some.inj y1
    omega
 have hpar:parentE md.L e.b=0:=by
   unfold parentE
   by_cases hh:e.b.height=1
   · rw [if_pos hh,if_pos (h11 hh)]
   · rw [if_neg hh]
     have h0:0<i:=by omega
     obtain⟨ek,k1,k2,k3, -⟩:=h.find okd (i-1) (by omega)
     rw [h5 h0,k1]
     show(if _ then (0:Int)else 18)=0
     rw [if_pos];rw [k3]
     obtain⟨ey,y1,y2, -⟩:=best_at ok hc (i-1) (by omega)
     rw [getD_lt _ _ (by omega),y1]at k2
     obtain rfl:=Option.some.inj k2
     rw [y2,h2];omega
 have hh1:1≤e.b.height:=by omega
 obtain⟨w1,w2,w3, -⟩:=bran_ok okd hh1 hpar
 have hbl:(branF md.L e.b).length=i:=by omega
 have hbr:branF md.L e.b=md.best:=by
   rcases Nat.eq_zero_or_pos i with h0|h0
   · rw [List.eq_nil_of_length_eq_zero (by omega:(branF md.L e.b).length=0),List.eq_nil_of_length_eq_zero (by omega:md.best.length=0)]
   · have q1:=w3 (by omega)
     have q2:=h5 h0
     have q3:=ways_same w1 okd.best (i-1) (by omega) (by omega) (by
       rw [hbl]at q1
       rw [←q1,q2,h.best,List.getD_eq_getElem?_getD,List.getD_eq_getElem?_getD,List.getElem?_take_of_lt (by omega)])
     rw [show i-1+1=i by omega,List.take_of_length_le (by omega),List.take_of_length_le (by omega)]at q3
     exact q3
 have hfin:finB md (branF md.L e.b)=false:=by
   unfold finB;rw [hbr,decide_eq_false_iff_not];rintro⟨f1,f2|f2⟩
   · have:=okd.fin.1;omega
   · exact f2 (okd.fin.2 f1)
 have happ:applyE r (runW r ((blksS m.L m.best).take i)) e.b=0:=by
   have hlt:i<(blksS m.L m.best).length:=by rw [blks_len];exact hi
   have:=(ok.brun i hlt).2;rw [List.getElem?_eq_getElem hlt]at h6;rw [Option.some.inj h6]at this
   exact this
 have hsub:SubOK r md e.b:=⟨h9,hnew,hpar,hfin,h10,by rw [hbr,h.blks okd];exact happ⟩
 have hwk:e.b.work=r.work:=h8;have hk0:=hr.k0;have hk1:=hr.k1
 have htot:totS md e.b=((i:Int)+1)*r.work:=by
   unfold totS;rw [hbl]
   rcases Nat.eq_zero_or_pos i with h0|h0
   · rw [if_neg (by omega),hwk,h0];simp
   · rw [if_pos h0]
     obtain⟨ek,k1,k2,k3,k4⟩:=h.find okd (i-1) (by omega)
     rw [h5 h0,k1]
     show wrapU (e.b.work+(md.L[i-1]'(by rw [h.len];omega)).tot)=_
     rw [k4,hwk]
     have e1:((i-1:Nat):Int)+1=i:=by omega
     rw [e1,Int.add_mul,Int.one_mul]
     have h0':0≤(i:Int)*r.work:=Int.mul_nonneg (by omega) (by omega)
     have h1':(i:Int)*r.work≤1000*65536:=Int.le_trans (Int.mul_le_mul_of_nonneg_right (by omega:(i:Int)≤1000) (by omega)) (Int.mul_le_mul_of_nonneg_left hk1 (by omega))
     have:wrapU (r.work+(i:Int)*r.work)=(r.work+(i:Int)*r.work) % 18446744073709551616:=IntKind.wrap_u64 _
     rw [this];omega
 have hbet:betS md e.b=true:=by
   unfold betS betterB;rw [hml]
   rcases Nat.eq_zero_or_pos i with h0|h0
   · rw [if_pos h0]
   · rw [if_neg (by omega)]
     have htip:tipS md=m.best.getD (i-1) 0:=by
       unfold tipS
       rw [List.getLast?_eq_getElem?,hml,h.best,List.getElem?_take_of_lt (by omega),List.getD_eq_getElem?_getD]
     obtain⟨ek,k1,k2,k3,k4⟩:=h.find okd (i-1) (by omega)
     rw [htip,k1,htot]
     show(decide ((md.L[i-1]'(by rw [h.len];omega)).tot<_)||_)=true
     rw [k4,decide_eq_true,Bool.true_or]
     have e1:((i-1:Nat):Int)+1=i:=by omega
     rw [e1,Int.add_mul,Int.one_mul];omega
 refine⟨hsub,h4,?_,?_,happ,h6,h7,h12,fun ya yc=> ?_⟩
 · unfold cntU
   rw [if_pos hbet,hbr,comN_self,hml];omega
 · unfold cntA
   rw [if_pos hbet,hbr,comN_self,hml];omega
 · have hL:(subM r md e.b ya yc).L=md.L++ [(⟨blkID e.b,e.b,totS md e.b,ya,yc⟩:StB)]:=subM_L ..
   have hB:(subM r md e.b ya yc).best=m.best.take (i+1):=by
     unfold subM;rw [if_pos hbet,finM_best]
     show branF md.L e.b++ [blkID e.b]=_
     rw [hbr,h.best,h4,List.take_succ_eq_append_getElem hi]
   refine⟨⟨by omega,hB,by rw [hL,List.length_append,h.len];rfl,fun k hk=> ?_⟩,?_,by rw [hB,List.length_take];omega⟩
   · have hk2:k<i+1:=by rw [hL,List.length_append,h.len]at hk;exact hk
     rcases Nat.lt_or_ge k i with hki|hki
     · obtain⟨ek,k1,k2,k3,k4⟩:=h.at' k (by rw [h.len];exact hki)
       refine⟨ek,k1,?_⟩
       have:(subM r md e.b ya yc).L[k]=md.L[k]'(by rw [h.len];exact hki):=by simp only [hL];rw [List.getElem_append_left]
       rw [this]
       exact⟨k2,k3,k4⟩
     · obtain rfl:k=i:=by omega
       have:(subM r md e.b ya yc).L[k]=⟨blkID e.b,e.b,totS md e.b,ya,yc⟩:=by
         simp only [hL]
         rw [List.getElem_append_right (by rw [h.len];exact Nat.le_refl _)]
         simp [h.len]
       rw [this,getD_lt _ _ hi]
       exact⟨e,he,h4,rfl,htot⟩
   · unfold tipS
     rw [hB,List.getLast?_eq_getElem?,List.length_take,List.getElem?_take_of_lt (by omega),show min (i+1) m.best.length-1=i by omega,List.getElem?_eq_getElem hi];rfl
end
theorem run_succ {r:RuM}{bs:List BlkM}{i:Nat}{b:BlkM}(h:bs[i]? =some b):runW r (bs.take (i+1))=applyW r (runW r (bs.take i)) b:=by
 obtain⟨hi,e⟩:=List.getElem?_eq_some_iff.1 h;rw [List.take_succ_eq_append_getElem hi,runW_snoc,e]
end Go.Proofs.YtjknlhiimmbilaaGreatDoor
/- A state of its own and a chain, apart in memory: a step of the one keeps the other. -/
set_option maxRecDepth 100000
namespace Go.Proofs.YtjknlhiimmbilaaGreatDoor
open Go.ChangeShapes Go.WideShapes Go.ChangeAt Go.RowKit Go.Sort
def ApartP (p:Nat)(I:Nat→Prop)(pv:PoV)(c:Nat)(SB PI:Nat→Prop)(v:ChV):Prop:=
 (∀k,PoMut p pv k→ ¬SB k∧ ¬PI k∧ ¬ChMut c v k)∧ ∀k,ChMut c v k→ ¬I k
section
variable {p c:Nat} {I SB PI I1 SB1 PI1:Nat→Prop} {pv pv1:PoV} {v v1:ChV} {w w1:World} {r:RuM} {m:ChM} {bs:List BlkM} {s:PoM}
theorem ApartP.made (hat:ChAt c SB PI w r m bs v)(h1: ∀k,PoMut p pv k→w.heap.size≤k)(h2: ∀k,I k→w.heap.size≤k):ApartP p I pv c SB PI v:=
 ⟨fun k hk=>by
   have h3:=h1 k hk
   exact⟨fun h=>by have:=hat.lt k h;omega,fun h=>by have:=hat.state.lt k h;omega,fun h=>by have:=hat.mut_lt k h;omega⟩,
  fun k hk h=>by have h3:=h2 k h;have:=hat.mut_lt k hk;omega⟩
theorem ApartP.pool (h:ApartP p I pv c SB PI v)(hat:ChAt c SB PI w r m bs v)(hk:Kept (fun k=> ¬PoMut p pv k) w w1)(hv: ∀k,PoMut p pv1 k→PoMut p pv k∨w.heap.size≤k)(hi: ∀k,I1 k→I k∨PoMut p pv k∨w.heap.size≤k):
   ChAt c SB PI w1 r m bs v∧ApartP p I1 pv1 c SB PI v:=by
 refine⟨hat.keep hk (fun k hs hm=>(h.1 k hm).1 hs) (fun k hs hm=>(h.1 k hm).2.1 hs) (fun k hs hm=>(h.1 k hm).2.2 hs),fun k hm=> ?_,fun k hm hi1=> ?_⟩
 · rcases hv k hm with h1|h1
   · exact h.1 k h1
   · exact⟨fun h2=>by have:=hat.lt k h2;omega,fun h2=>by have:=hat.state.lt k h2;omega,fun h2=>by have:=hat.mut_lt k h2;omega⟩
 · rcases hi k hi1 with h1|h1|h1
   · exact h.2 k hm h1
   · exact(h.1 k h1).2.2 hm
   · have:=hat.mut_lt k hm;omega
theorem ApartP.chain (h:ApartP p I pv c SB PI v)(hat:PoAt p I w r s pv)(hs:ChStp c SB PI v w SB1 PI1 v1 w1):
   PoAt p I w1 r s pv∧ApartP p I pv c SB1 PI1 v1:=by
 refine⟨hat.keep hs.kept (fun k hi hm=>h.2 k hm hi) (fun k hm hc=>(h.1 k hm).2.2 hc),fun k hm=> ?_,fun k hm hi=> ?_⟩
 · obtain⟨h1,h2,h3⟩:=h.1 k hm
   have hlt:=hat.mut_lt k hm
   refine⟨fun h4=> ?_,fun h4=> ?_,fun h4=> ?_⟩
   · rcases hs.sb' k h4 with h5|h5
     · exact h1 h5
     · omega
   · rcases hs.pi' k h4 with h5|h5|h5
     · exact h2 h5
     · exact h3 h5
     · omega
   · rcases hs.turn k h4 with h5|h5
     · exact h3 h5
     · omega
 · rcases hs.turn k hm with h5|h5
   · exact h.2 k h5 hi
   · have:=hat.lt k hi;omega
def FarM (B z0 z1:Nat)(M:Nat→Prop):Prop:= ∀j,M j→B≤j∧(j<z0∨z1≤j)
theorem FarM.step {B z0 z1 n:Nat}{M M1:Nat→Prop}(h:FarM B z0 z1 M)(h1: ∀k,M1 k→M k∨n≤k)(hz:z1≤n)(hB:B≤n):FarM B z0 z1 M1:=fun j hj=>by
 rcases h1 j hj with h2|h2
 · exact h j h2
 · exact⟨by omega,.inr (by omega)⟩
end
end Go.Proofs.YtjknlhiimmbilaaGreatDoor
/- Bytes as a string. -/
set_option maxRecDepth 100000
namespace Go.Proofs.YtjknlhiimmbilaaGreatDoor
open Go.ChangeShapes Go.WideShapes Go.ChangeAt Go.RowKit
theorem conv_str {S:Nat→Prop}{w:World}{a:Option Addr}{len cap:Nat}{xs:List Int}(h:bytesR.rel S w [.slice a len cap] xs):(convert 71 9 (.slice a len cap)).run Tryz.prog w= .ok (.string (strOfNums xs)) w:=by
 obtain⟨rfl, -⟩:=sliceR.lens h
 cases xs with
 |nil=>
  cases a with
  |none=>exact run_convert_bytes_nil w 71 5 Tryz.underlying71 Tryz.underlying5 _ _ 9 Tryz.underlying9
  |some ad=>
   rw [run_convert_bytes_string w 71 9 5 _ _ cap Tryz.underlying71 Tryz.underlying5 Tryz.underlying9,run_bytesToString w _ _ cap [] (by simp [loadCells,loadCellsFrom])]
   rfl
 |cons x xs=>
  obtain⟨b,off,rfl, -⟩:=bytes_at h 0 (by simp)
  refine run_convert_bytes_arg w 71 5 Tryz.underlying71 Tryz.underlying5 b off _ cap (x::xs) rfl (fun i hi=> ?_) 9 Tryz.underlying9
  obtain⟨b',off',h1, -, -, -, -,h2⟩:=bytes_at h i hi
  simp only [Option.some.injEq,Addr.mk.injEq]at h1
  obtain⟨rfl,rfl, -⟩:=h1
  rw [h2,List.getD_eq_getElem?_getD,List.getElem?_eq_getElem hi];rfl
theorem str_self (s:ByteArray):(s.toList==s.toList)=true:=beq_self_eq_true _
theorem wpAnyH_more {P:Program}{md:Region.Mode}{ops:Array Oper}{Q:Exit→Act→World→Prop}{S S':World→Prop}(h: ∀w,S' w→S w): ∀(fuel:Nat) (listed:Array Bool) (a:Act) (w:World),wpAnyH P md ops Q S' fuel listed a w→wpAnyH P md ops Q S fuel listed a w
 |0,_,_,_,h'=>h'
 |fuel+1,_,_,_,h'=>⟨h'.1,fun i hi=>wpOp_mono (fun a' w' q=>⟨h _ q.1,wpAnyH_more h fuel _ a' w' q.2⟩) (h'.2 i hi)⟩
theorem BelS.next {a b c:World}(h:Below a.heap.size a b)(hc:BelS b c):BelS a c:=⟨bnext h hc.bel⟩
end Go.Proofs.YtjknlhiimmbilaaGreatDoor
