/- The chain of the program: plain values, representation in memory. -/
import Derived.Test.YtjknlhiimmbilaaGreatDoorMPoC
import Derived.Test.YtjknlhiimmbilaaGreatDoorMFld
import Derived.Test.YtjknlhiimmbilaaGreatDoorMFr
set_option maxRecDepth 100000
namespace Go.Proofs.YtjknlhiimmbilaaGreatDoor
open Go.ChangeShapes Go.WideShapes Go.ChangeAt Go.RowKit Go.Sort
structure StB where
 id:Int
 b:BlkM
 tot:Int
 xa:Option Addr
 xc:Nat
abbrev stV (e:StB):Value:= .agg #[.int .u64 e.b.parent,.int .i64 e.b.height,.int .u64 e.b.miner,.int .u64 e.b.work,.int .u64 e.b.nonce,.slice e.xa e.b.txs.length e.xc,.int .u64 e.tot]
abbrev stZ:Value:= .agg #[.int .u64 0,.int .i64 0,.int .u64 0,.int .u64 0,.int .u64 0,.slice none 0 0,.int .u64 0]
structure ChM where
 L:List StB
 best:List Int
 final:Int
 hgt:Nat
structure ChV where
 op:Nat
 mb:Nat
 ba:Option Addr
 bc:Nat
 p:Nat
 pv:PoV
def findS (L:List StB)(x:Int):Option StB:=L.find? fun e=>e.id==x
def zeroB:BlkM:=⟨0,0,0,0,0,[]⟩
def blkS (L:List StB)(x:Int):BlkM:=((findS L x).map (·.b)).getD zeroB
def blksS (L:List StB)(l:List Int):List BlkM:=l.map (blkS L)
def OrIn (S:Nat→Prop)(p:Nat)(w:World):Prop:=
 ∃mk ms mp,w.heap[p]? =some (.cells #[.bool false,.int .u64 0,.int .i64 0,.slice none 0 0,.map (some mk),.map (some ms),.map (some mp)] 78 (0,0))∧
  w.heap[mk]? =some (.map #[] 0)∧w.heap[ms]? =some (.map #[] 0)∧w.heap[mp]? =some (.map #[] 0)∧S p∧S mk∧S ms∧S mp
theorem OrIn.at' {S:Nat→Prop}{p:Nat}{w:World}(h:OrIn S p w):OrAt false 0 p w:=by
 obtain⟨mk,ms,mp,h1,h2,h3,h4, -⟩:=h
 exact⟨mk,ms,mp,h1,h2,h3,h4⟩
theorem OrAt.in' {p:Nat}{w:World}(h:OrAt false 0 p w):OrIn (fun k=>k<w.heap.size) p w:=by
 obtain⟨mk,ms,mp,h1,h2,h3,h4⟩:=h
 exact⟨mk,ms,mp,h1,h2,h3,h4,box_lt h1,box_lt h2,box_lt h3,box_lt h4⟩
theorem OrIn.keep {S T:Nat→Prop}{p:Nat}{w w':World}(h:OrIn S p w)(hk:Kept T w w')(hT: ∀k,S k→T k):OrIn S p w':=by
 obtain⟨mk,ms,mp,h1,h2,h3,h4,s1,s2,s3,s4⟩:=h
 exact⟨mk,ms,mp,box_kept hk h1 (hT _ s1),box_kept hk h2 (hT _ s2),box_kept hk h3 (hT _ s3),box_kept hk h4 (hT _ s4),s1,s2,s3,s4⟩
theorem OrIn.mono {S T:Nat→Prop}{p:Nat}{w:World}(h:OrIn S p w)(hT: ∀k,S k→T k):OrIn T p w:=by
 obtain⟨mk,ms,mp,h1,h2,h3,h4,s1,s2,s3,s4⟩:=h
 exact⟨mk,ms,mp,h1,h2,h3,h4,hT _ s1,hT _ s2,hT _ s3,hT _ s4⟩
def ChMut (c:Nat)(v:ChV)(k:Nat):Prop:=k=c∨k=v.mb∨PoMut v.p v.pv k
abbrev chCells (r:RuM)(m:ChM)(v:ChV):Array Value:=
 #[.pointer (some ⟨v.op,0,none⟩),.int .i64 r.mode,.int .i64 r.depth,.int .i64 r.bl,.int .i64 r.bu,.int .i64 r.qu,.int .u64 r.rew,.int .i64 r.win,.int .i64 r.fin,.int .u64 r.work,
   .map (some v.mb),.slice v.ba m.best.length v.bc,.pointer (some ⟨v.p,0,none⟩),.int .u64 m.final,.int .i64 (m.hgt:Nat)]
def StoAt (w:World)(mb:Nat)(L:List StB):Prop:= ∃nm:NMap,MapAt w mb nm∧(∀x,getM nm x=(findS L x).map stV)∧nm.length≤L.length
structure ChAt (c:Nat)(SB PI:Nat→Prop)(w:World)(r:RuM)(m:ChM)(bs:List BlkM)(v:ChV):Prop where
 cell:w.heap[c]? =some (.cells (chCells r m v) 84 (0,0))
 orc:r.mode=2→OrIn SB v.op w
 map:StoAt w v.mb m.L
 blocks: ∀e∈m.L,BlkIn SB w e.b e.xa e.xc∧okU e.id∧okU e.tot
 best:numsR.rel SB w [.slice v.ba m.best.length v.bc] m.best
 state:PoAt v.p PI w r (runW r bs) v.pv
 free: ∀k,ChMut c v k→ ¬SB k
 ap1: ¬PoMut v.p v.pv c
 ap2: ¬PoMut v.p v.pv v.mb
 pi: ∀k,PI k→k≠c∧k≠v.mb
 lt: ∀k,SB k→k<w.heap.size
section
variable {c:Nat} {SB PI:Nat→Prop} {w w':World} {r:RuM} {m:ChM} {bs:List BlkM} {v:ChV}
theorem StoAt.keep {S:Nat→Prop}{mb:Nat}{L:List StB}(h:StoAt w mb L)(hk:Kept S w w')(hS:S mb):StoAt w' mb L:=by
 obtain⟨nm,h1,h2⟩:=h;exact⟨nm,h1.keep hk hS,h2⟩
theorem StoAt.keepB {mb:Nat}{L:List StB}(h:StoAt w mb L)(hb:Below w.heap.size w w'):StoAt w' mb L:=by
 obtain⟨nm,h1,h2⟩:=h;exact⟨nm,h1.keepB hb,h2⟩
theorem StoAt.lt {mb:Nat}{L:List StB}(h:StoAt w mb L):mb<w.heap.size:=by obtain⟨nm,h1, -⟩:=h;exact h1.lt
theorem ChAt.mut_lt (h:ChAt c SB PI w r m bs v)(k:Nat)(hk:ChMut c v k):k<w.heap.size:=by
 rcases hk with rfl|rfl|e
 · exact box_lt h.cell
 · exact h.map.lt
 · exact h.state.mut_lt k e
theorem ChAt.ne_mb (h:ChAt c SB PI w r m bs v):c≠v.mb:=by
 intro e
 obtain⟨nm,⟨es,clock,hb,_⟩, -⟩:=h.map
 rw [←e,h.cell]at hb;simp at hb
theorem ChAt.keep (h:ChAt c SB PI w r m bs v){S:Nat→Prop}(hk:Kept S w w')(hI: ∀k,SB k→S k)(hP: ∀k,PI k→S k)(hM: ∀k,ChMut c v k→S k):ChAt c SB PI w' r m bs v:=
 ⟨(hk.block c (box_lt h.cell) (hM c (.inl rfl))).trans h.cell,fun e=>(h.orc e).keep hk hI,h.map.keep hk (hM _ (.inr (.inl rfl))),
  fun e he=>⟨(h.blocks e he).1.keep (hk.mono fun k _=>hI k),(h.blocks e he).2⟩,numsR.keep h.best (hk.mono fun k _=>hI k),
  h.state.keep hk hP fun k hk=>hM k (.inr (.inr hk)),h.free,h.ap1,h.ap2,h.pi,fun k hi=>Nat.lt_of_lt_of_le (h.lt k hi) hk.size⟩
theorem ChAt.keepB (h:ChAt c SB PI w r m bs v)(hb:Below w.heap.size w w'):ChAt c SB PI w' r m bs v:=
 h.keep (Kept.of_below (S:=fun k=>k<w.heap.size) hb) h.lt h.state.lt h.mut_lt
theorem ChAt.keepC (h:ChAt c SB PI w r m bs v)(hk:Kept (fun k=>k≠c) w w'):(r.mode=2→OrIn SB v.op w')∧StoAt w' v.mb m.L∧(∀e∈m.L,BlkIn SB w' e.b e.xa e.xc∧okU e.id∧okU e.tot)∧numsR.rel SB w' [.slice v.ba m.best.length v.bc] m.best∧PoAt v.p PI w' r (runW r bs) v.pv:=by
 have hs: ∀k,SB k→k≠c:=fun k hk e=>h.free c (.inl rfl) (e▸hk)
 exact⟨fun e=>(h.orc e).keep hk hs,h.map.keep hk (Ne.symm h.ne_mb),fun e he=>⟨(h.blocks e he).1.keep (hk.mono fun k _=>hs k),(h.blocks e he).2⟩,numsR.keep h.best (hk.mono fun k _=>hs k),
   h.state.keep hk (fun k hk=>(h.pi k hk).1) fun k hm e=>h.ap1 (e▸hm)⟩
end
theorem zero_st (w:World):(zeroValue 86).run Tryz.prog w= .ok stZ w:=by
 have h0:(Tryz.prog.info? 86).map (·.zero)=some (some stZ):=by kernel_rfl
 obtain⟨i,hi,hz⟩:=Option.map_eq_some_iff.1 h0
 simp [zeroValue,typeInfo,hi,hz]
theorem fld_tot (a0 a1 a2 a3 a4 a6:Int)(a5:Option Addr)(n5 c5:Nat)(w:World):(Instr.field 86 (.agg #[.int .u64 a0,.int .i64 a1,.int .u64 a2,.int .u64 a3,.int .u64 a4,.slice a5 n5 c5,.int .u64 a6]) 1).run Tryz.prog w= .ok (.int .u64 a6) w:=by kernel_rfl
theorem fld_blk (a0 a1 a2 a3 a4 a6:Int)(a5:Option Addr)(n5 c5:Nat)(w:World):(Instr.field 86 (.agg #[.int .u64 a0,.int .i64 a1,.int .u64 a2,.int .u64 a3,.int .u64 a4,.slice a5 n5 c5,.int .u64 a6]) 0).run Tryz.prog w= .ok (.agg #[.int .u64 a0,.int .i64 a1,.int .u64 a2,.int .u64 a3,.int .u64 a4,.slice a5 n5 c5]) w:=by kernel_rfl
theorem StoAt.look {w:World}{mb:Nat}{L:List StB}(h:StoAt w mb L)(x:Int)(hx:okU x):(Instr.lookup 82 (.map (some mb)) (.int .u64 x) false).run Tryz.prog w= .ok (((findS L x).map stV).getD stZ) w:=by
 obtain⟨nm,h1,h2, -⟩:=h;rw [h1.look Tryz.underlying82 (zero_st w) x hx,h2]
theorem StoAt.look_ok {w:World}{mb:Nat}{L:List StB}(h:StoAt w mb L)(x:Int)(hx:okU x):(Instr.lookup 82 (.map (some mb)) (.int .u64 x) true).run Tryz.prog w= .ok (.tuple #[((findS L x).map stV).getD stZ,.bool (findS L x).isSome]) w:=by
 obtain⟨nm,h1,h2, -⟩:=h;rw [h1.look_ok Tryz.underlying82 (zero_st w) x hx,h2,Option.isSome_map]
theorem StoAt.found {w:World}{mb:Nat}{L:List StB}(h:StoAt w mb L)(x:Int)(hx:okU x)(e:StB)(he:findS L x=some e):(Instr.lookup 82 (.map (some mb)) (.int .u64 x) false).run Tryz.prog w= .ok (.agg #[.int .u64 e.b.parent,.int .i64 e.b.height,.int .u64 e.b.miner,.int .u64 e.b.work,.int .u64 e.b.nonce,.slice e.xa e.b.txs.length e.xc,.int .u64 e.tot]) w:=by
 rw [h.look x hx,he];rfl
end Go.Proofs.YtjknlhiimmbilaaGreatDoor
/- The chain of the program: Tip, Final, Best, better. -/
set_option maxRecDepth 100000
set_option maxHeartbeats 1000000
namespace Go.Proofs.YtjknlhiimmbilaaGreatDoor
open Go.ChangeShapes Go.WideShapes Go.ChangeAt Go.RowKit Go.Sort
section
variable (c:Nat) (SB PI:Nat→Prop) (w:World) (r:RuM) (m:ChM) (bs:List BlkM) (v:ChV)
theorem final_any (h:ChAt c SB PI w r m bs v):
   Calls Tryz.prog 26 #[.pointer (some ⟨c,0,none⟩)] w fun e w'=>e= .returned (.tuple #[.int .u64 m.final,.int .i64 (m.hgt:Nat)])∧Below w.heap.size w w':=by
 obtain⟨x0,x1⟩:=box_cells h.cell
 simp only [chCells]at x0
 go_enter Tryz.func26,Tryz.ntmps26
 go_wp2_with fail
 go_region
 go_wp2_with fail;go_ret2
 exact⟨rfl,(Below.refl _ _).drew⟩
theorem state_any (h:ChAt c SB PI w r m bs v):
   Calls Tryz.prog 13 #[.pointer (some ⟨c,0,none⟩)] w fun e w'=>e= .returned (.pointer (some ⟨v.p,0,none⟩))∧Below w.heap.size w w':=by
 obtain⟨x0,x1⟩:=box_cells h.cell
 simp only [chCells]at x0
 go_enter Tryz.func13,Tryz.ntmps13
 go_wp2_with fail;go_ret
 exact⟨rfl,Below.refl _ _⟩
def tipS (m:ChM):Int:=m.best.getLast?.getD 0
theorem tip_any (h:ChAt c SB PI w r m bs v)(hl:m.best.length≤100000):
   Calls Tryz.prog 21 #[.pointer (some ⟨c,0,none⟩)] w fun e w'=>e= .returned (.tuple #[.int .u64 (tipS m),.int .i64 m.best.length])∧Below w.heap.size w w':=by
 obtain⟨x0,x1⟩:=box_cells h.cell
 simp only [chCells]at x0
 have HB:=Hd h.best;have HT:Hid (tipS m=m.best.getLast?.getD 0):=rfl;clear h;obtain⟨n,hn⟩: ∃n,m.best.length=n:=⟨_,rfl⟩
 by_cases h0:n=0
 · have HF:Hid (tipS m=0):=by show _=_;rw [HT.out,List.eq_nil_of_length_eq_zero (hn.trans h0)];rfl
   rw [hn]at x0⊢;subst h0
   go_enter Tryz.func21,Tryz.ntmps21
   go_wp2_with fail;go_ret2
   exact⟨by rw [HF.out];rfl,Below.refl _ _⟩
 · obtain⟨k,hk⟩: ∃k,n=k+1:=⟨n-1,by omega⟩
   have hlt:k<m.best.length:=by omega
   have HF:Hid (tipS m=m.best[k]):=by show _=_;rw [HT.out,List.getLast?_eq_getElem?,List.getElem?_eq_getElem (by omega)];simp [hn,hk]
   obtain⟨bb,off,hba,hbl,hcc⟩:=nums_at HB.out k hlt;rw [hn]at x0⊢;rw [hba]at x0;generalize m.best[k]=y at*
   have hk9:k≤100000:=by omega
   clear h0 hn hlt hba;subst hk
   have hwk:wrap64 (k:Int)=k:=by unfold wrap64;omega
   go_enter Tryz.func21,Tryz.ntmps21
   go_wp2_with fail
   go_region
   go_wp2_with fail;go_ret2
   exact⟨by rw [HF.out];rfl,(Below.refl _ _).drew⟩
theorem best_any (h:ChAt c SB PI w r m bs v)(hl:m.best.length≤100000):
   Calls Tryz.prog 19 #[.pointer (some ⟨c,0,none⟩)] w fun e w'=> ∃u,e= .returned u∧Own u64R w.heap.size 24 (fun k=>w.heap.size≤k) w' u m.best∧Below w.heap.size w w':=by
 obtain⟨x0,x1⟩:=box_cells h.cell
 simp only [chCells]at x0
 have HB:=Hd h.best;clear h
 go_enter Tryz.func19,Tryz.ntmps19
 go_wp2_with fail
 refine(cloneO_any SB w v.ba v.bc m.best HB.out (by omega)).mono ?_
 rintro e w1 ⟨u,rfl,ho,hb1⟩;have HO:=Hd ho;clear ho x0 x1;go_wp2_with fail;go_ret
 exact⟨u,rfl,HO.out,hb1⟩
def betterB (m:ChM)(id work:Int):Bool:=
 if m.best.length=0 then true
 else decide (((findS m.L (tipS m)).map (·.tot)).getD 0<work)||(work==((findS m.L (tipS m)).map (·.tot)).getD 0)&&decide (id<tipS m)
theorem better_any (h:ChAt c SB PI w r m bs v)(hl:m.best.length≤100000)(hin: ∀x∈m.best,∃e,findS m.L x=some e)(id work:Int):
   Calls Tryz.prog 47 #[.pointer (some ⟨c,0,none⟩),.int .u64 id,.int .u64 work] w fun e w'=>e= .returned (.bool (betterB m id work))∧Below w.heap.size w w':=by
 obtain⟨x0,x1⟩:=box_cells h.cell;have HC:=Hd h.cell
 simp only [chCells]at x0
 have HB:=Hd h.best;have HM:=Hd h.map;have HT:Hid (tipS m=m.best.getLast?.getD 0):=rfl;have HBT:Hid (betterB m id work=if m.best.length=0 then true else decide (((findS m.L (tipS m)).map (·.tot)).getD 0<work)||(work==((findS m.L (tipS m)).map (·.tot)).getD 0)&&decide (id<tipS m)):=rfl;clear h;obtain⟨n,hn⟩: ∃n,m.best.length=n:=⟨_,rfl⟩
 by_cases h0:n=0
 · have HF:Hid (betterB m id work=true):=by show _=_;rw [HBT.out,if_pos (hn.trans h0)]
   rw [hn]at x0;subst h0
   go_enter Tryz.func47,Tryz.ntmps47
   go_wp2_with fail;go_ret
   exact⟨by rw [HF.out];rfl,Below.refl _ _⟩
 · obtain⟨k,hk⟩: ∃k,n=k+1:=⟨n-1,by omega⟩
   have hlt:k<m.best.length:=by omega
   have hF:tipS m=m.best[k]:=by rw [HT.out,List.getLast?_eq_getElem?,List.getElem?_eq_getElem (by omega)];simp [hn,hk]
   obtain⟨e,he⟩:=hin m.best[k] (List.getElem_mem hlt)
   have HBE:Hid (betterB m id work=(decide (e.tot<work)||(work==e.tot)&&decide (id<m.best[k]))):=by
     show _=_
     rw [HBT.out,if_neg (by omega),hF,he];rfl
   have hoy:=ints_wf HB.out _ (List.getElem_mem hlt);obtain⟨bb,off,hba,hbl,hcc⟩:=nums_at HB.out k hlt;have HE:=Hd he;have HOY:=Hd hoy;rw [hn]at x0;rw [hba]at x0;generalize m.best[k]=y at*
   have hk9:k≤100000:=by omega
   clear h0 hn hlt hF he hoy hin hba;subst hk
   have hwk:wrap64 (k:Int)=k:=by unfold wrap64;omega
   go_enter Tryz.func47,Tryz.ntmps47
   go_wp2_with fail
   go_region
   have hlk:=(HM.out.keepB ((Below.refl w.heap.size w).drew)).found y HOY.out e HE.out;have hft:=fld_tot e.b.parent e.b.height e.b.miner e.b.work e.b.nonce e.tot e.xa e.b.txs.length e.xc
   by_cases hA:e.tot<work
   · have HF:Hid (betterB m id work=true):=by show _=_;rw [HBE.out,decide_eq_true hA];rfl
     go_wp2_with fail;go_ret
     exact⟨by rw [HF.out];rfl,(Below.refl _ _).drew⟩
   · by_cases hB:work=e.tot
     · subst hB
       have HF:Hid (betterB m id e.tot=decide (id<y)):=by show _=_;rw [HBE.out];simp
       go_wp2_with fail;go_ret
       exact⟨by rw [HF.out];rfl,(Below.refl _ _).drew⟩
     · have z1:(work==e.tot)=false:=by rw [beq_eq_false_iff_ne];exact hB
       have z2:decide (e.tot<work)=false:=decide_eq_false hA
       have HF:Hid (betterB m id work=false):=by show _=_;rw [HBE.out,z1,z2];rfl
       go_wp2_with fail;go_ret
       exact⟨by rw [HF.out];rfl,(Below.refl _ _).drew⟩
end
end Go.Proofs.YtjknlhiimmbilaaGreatDoor
/- The chain of the program: parent. -/
set_option maxRecDepth 100000
set_option maxHeartbeats 1000000
namespace Go.Proofs.YtjknlhiimmbilaaGreatDoor
open Go.ChangeShapes Go.WideShapes Go.ChangeAt Go.RowKit Go.Sort
def parentE (L:List StB)(b:BlkM):Int:=
 if b.height=1 then (if b.parent=0 then 0 else 18)
 else match findS L b.parent with
   |some e=>if e.b.height=b.height-1 then 0 else 18
   |none=>18
theorem parent_any (c:Nat)(SB PI:Nat→Prop)(w:World)(r:RuM)(m:ChM)(bs:List BlkM)(v:ChV)(h:ChAt c SB PI w r m bs v)(b:BlkM)(xa:Option Addr)(xc:Nat)(hp:okU b.parent)(hh:1≤b.height)(hh2:b.height≤1048576):
   Calls Tryz.prog 43 #[.pointer (some ⟨c,0,none⟩),.agg #[.int .u64 b.parent,.int .i64 b.height,.int .u64 b.miner,.int .u64 b.work,.int .u64 b.nonce,.slice xa b.txs.length xc]] w fun e w'=>e= .returned (.int .i64 (parentE m.L b))∧Below w.heap.size w w':=by
 have hbA:=bnew (Below.refl w.heap.size w) (.cells #[.int .u64 b.parent,.int .i64 b.height,.int .u64 b.miner,.int .u64 b.work,.int .u64 b.nonce,.slice xa b.txs.length xc] 48);have HX:=Hd (box_new w (.cells #[.int .u64 b.parent,.int .i64 b.height,.int .u64 b.miner,.int .u64 b.work,.int .u64 b.nonce,.slice xa b.txs.length xc] 48));have HC:=Hd (box_after hbA h.cell);have HM:=Hd (h.map.keepB hbA);have HB:=Hd hbA
 have HU:Hid (parentE m.L b=if b.height=1 then (if b.parent=0 then 0 else 18)else match findS m.L b.parent with|some e=>if e.b.height=b.height-1 then 0 else 18|none=>18):=rfl
 clear hbA h
 go_enter Tryz.func43,Tryz.ntmps43
 go_upto_region 1 with(fail)
 generalize w.alloc (.cells #[.int .u64 b.parent,.int .i64 b.height,.int .u64 b.miner,.int .u64 b.work,.int .u64 b.nonce,.slice xa b.txs.length xc] 48)=W at*;obtain⟨x0,x1⟩:=box_cells HX.out
 by_cases h1:b.height=1
 · have z1:(b.height==1)=true:=by rw [beq_iff_eq];exact h1
   by_cases h2:b.parent=0
   · have HF:Hid (parentE m.L b=0):=by show _=_;rw [HU.out,if_pos h1,if_pos h2]
     have z2:(b.parent != 0)=false:=by rw [bne_eq_false_iff_eq];exact h2
     clear h1 h2;go_wp2_with fail;go_ret
     exact⟨ret_int HF.out.symm,HB.out⟩
   · have HF:Hid (parentE m.L b=18):=by show _=_;rw [HU.out,if_pos h1,if_neg h2]
     have z2:(b.parent != 0)=true:=by rw [bne_iff_ne];exact h2
     clear h1 h2;go_wp2_with fail;go_ret
     exact⟨ret_int HF.out.symm,HB.out⟩
 · have z1:(b.height==1)=false:=by rw [beq_eq_false_iff_ne];exact h1
   have HU1:=Hd (HU.out.trans (if_neg h1))
   have hw1:wrap64 (b.height-1)=b.height-1:=by unfold wrap64;omega
   clear HU;obtain⟨y0,y1⟩:=box_cells HC.out
   simp only [chCells]at y0
   have yy:=fun o'=>(box_cells (box_old (o':=o') HC.out)).1
   have xx:=fun o'=>(box_cells (box_old (o':=o') HX.out)).1
   simp only [chCells]at yy
   cases hf:findS m.L b.parent with
   |none=>
    have HF:Hid (parentE m.L b=18):=by show _=_;rw [HU1.out,hf]
    have hl1:=(HM.out.keepB ((Below.refl W.heap.size W).drew)).look_ok b.parent hp
    have hl2:=fun o=>(HM.out.keepB ((bnew (Below.refl W.heap.size W) o).drew)).look_ok b.parent hp
    rw [hf]at hl1
    simp only [hf]at hl2
    have hl1':(Instr.lookup 82 (.map (some v.mb)) (.int .u64 b.parent) true).run Tryz.prog W.drew= .ok (.tuple #[.agg #[.int .u64 0,.int .i64 0,.int .u64 0,.int .u64 0,.int .u64 0,.slice none 0 0,.int .u64 0],.bool false]) W.drew:=hl1;have hl2': ∀o,(Instr.lookup 82 (.map (some v.mb)) (.int .u64 b.parent) true).run Tryz.prog (W.alloc o).drew= .ok (.tuple #[.agg #[.int .u64 0,.int .i64 0,.int .u64 0,.int .u64 0,.int .u64 0,.slice none 0 0,.int .u64 0],.bool false]) (W.alloc o).drew:=hl2;clear hl1 hl2 hf HU1
    go_upto_region 5 with(fail)
    go_cut [5,6]from 7 (fun v5 v6 wc=> ∃q,v5= .pointer (some ⟨q,0,none⟩)∧v6= .bool false∧Hid (Below W.heap.size W wc))
    case first=>
      go_region
      all_goals
        go_wp2_with fail
        go_meet
        case rel=>exact⟨_,rfl,rfl,(bnew (Below.refl _ _) _).drew⟩
    case rest=>
      obtain⟨q,rfl,rfl,HBc⟩:=hcut;go_wp2_with fail;go_ret
      exact⟨ret_int HF.out.symm,bnext HB.out HBc.out⟩
   |some e=>
    have hl1:=(HM.out.keepB ((Below.refl W.heap.size W).drew)).look_ok b.parent hp
    have hl2:=fun o=>(HM.out.keepB ((bnew (Below.refl W.heap.size W) o).drew)).look_ok b.parent hp
    rw [hf]at hl1
    simp only [hf]at hl2
    have hl1':(Instr.lookup 82 (.map (some v.mb)) (.int .u64 b.parent) true).run Tryz.prog W.drew= .ok (.tuple #[.agg #[.int .u64 e.b.parent,.int .i64 e.b.height,.int .u64 e.b.miner,.int .u64 e.b.work,.int .u64 e.b.nonce,.slice e.xa e.b.txs.length e.xc,.int .u64 e.tot],.bool true]) W.drew:=hl1;have hl2': ∀o,(Instr.lookup 82 (.map (some v.mb)) (.int .u64 b.parent) true).run Tryz.prog (W.alloc o).drew= .ok (.tuple #[.agg #[.int .u64 e.b.parent,.int .i64 e.b.height,.int .u64 e.b.miner,.int .u64 e.b.work,.int .u64 e.b.nonce,.slice e.xa e.b.txs.length e.xc,.int .u64 e.tot],.bool true]) (W.alloc o).drew:=hl2
    have HU2:Hid (parentE m.L b=if e.b.height=b.height-1 then 0 else 18):=by show _=_;rw [HU1.out,hf]
    clear hl1 hl2 hf HU1
    go_upto_region 5 with(fail)
    go_cut [5,6]from 7 (fun v5 v6 wc=> ∃q,v5= .pointer (some ⟨q,0,none⟩)∧v6= .bool true∧Hid (wc.heap[q]? =some (.cells #[.int .u64 e.b.parent,.int .i64 e.b.height,.int .u64 e.b.miner,.int .u64 e.b.work,.int .u64 e.b.nonce,.slice e.xa e.b.txs.length e.xc,.int .u64 e.tot] 86 (0,0)))∧Hid (Below W.heap.size W wc))
    case first=>
      go_region
      all_goals
        have HQ:Hid ((W.alloc (.cells #[.int .u64 e.b.parent,.int .i64 e.b.height,.int .u64 e.b.miner,.int .u64 e.b.work,.int .u64 e.b.nonce,.slice e.xa e.b.txs.length e.xc,.int .u64 e.tot] 86)).drew.heap[W.heap.size]? =some (.cells #[.int .u64 e.b.parent,.int .i64 e.b.height,.int .u64 e.b.miner,.int .u64 e.b.work,.int .u64 e.b.nonce,.slice e.xa e.b.txs.length e.xc,.int .u64 e.tot] 86 (0,0))):=box_new W _;go_wp2_with fail
        go_meet
        case rel=>exact⟨_,rfl,rfl,HQ,(bnew (Below.refl _ _) _).drew⟩
    case rest=>
      obtain⟨q,rfl,rfl,HQ,HBc⟩:=hcut;clear x0 x1 y0 y1 xx yy hl1' hl2';obtain⟨x0,x1⟩:=box_cells (box_after HBc.out HX.out);obtain⟨q0,q1⟩:=box_cells HQ.out
      by_cases h3:e.b.height=b.height-1
      · have HF:=Hd (HU2.out.trans (if_pos h3))
        have z3:(e.b.height != b.height-1)=false:=by rw [bne_eq_false_iff_eq];exact h3
        clear h3;go_wp2_with fail;go_ret
        exact⟨ret_int HF.out.symm,bnext HB.out HBc.out⟩
      · have HF:=Hd (HU2.out.trans (if_neg h3))
        have z3:(e.b.height != b.height-1)=true:=by rw [bne_iff_ne];exact h3
        clear h3;go_wp2_with fail;go_ret
        exact⟨ret_int HF.out.symm,bnext HB.out HBc.out⟩
end Go.Proofs.YtjknlhiimmbilaaGreatDoor
/- The chain of the program: branch. -/
set_option maxRecDepth 100000
set_option maxHeartbeats 2000000
namespace Go.Proofs.YtjknlhiimmbilaaGreatDoor
open Go.ChangeShapes Go.WideShapes Go.ChangeAt Go.RowKit Go.Sort
def IsWay (L:List StB)(l:List Int):Prop:= ∀(k:Nat) (h:k<l.length),∃e,findS L l[k]=some e∧e.b.height=k+1∧(0<k→e.b.parent=l.getD (k-1) 0)
def BrOut (l:List Int)(w:World)(e:Ending)(w':World):Prop:= ∃u,e= .returned u∧Own u64R w.heap.size 24 (fun k=>False∨w.heap.size≤k) w' u l∧Below w.heap.size w w'
abbrev heightAt (w:World)(q:Nat):Nat:=match w.cell? ⟨q,1,none⟩with
 |some (.int _ h)=>h.toNat
 |_=>0
theorem branch_any (c:Nat)(SB PI:Nat→Prop)(w:World)(r:RuM)(m:ChM)(bs:List BlkM)(v:ChV)(h:ChAt c SB PI w r m bs v)(b:BlkM)(xa:Option Addr)(xc:Nat)(hpo:okU b.parent)(n:Nat)(hn:b.height=n+1)(hn2:n≤100000)(l:List Int)(hw:IsWay m.L l)(hl:l.length=n)(hlast:0<n→b.parent=l.getD (n-1) 0):
   Calls Tryz.prog 44 #[.pointer (some ⟨c,0,none⟩),.agg #[.int .u64 b.parent,.int .i64 b.height,.int .u64 b.miner,.int .u64 b.work,.int .u64 b.nonce,.slice xa b.txs.length xc]] w (BrOut l w):=by
 have hbA:=bnew (Below.refl w.heap.size w) (.cells #[.int .u64 b.parent,.int .i64 b.height,.int .u64 b.miner,.int .u64 b.work,.int .u64 b.nonce,.slice xa b.txs.length xc] 48);have HX:=Hd (box_new w (.cells #[.int .u64 b.parent,.int .i64 b.height,.int .u64 b.miner,.int .u64 b.work,.int .u64 b.nonce,.slice xa b.txs.length xc] 48));have HC:=Hd (h.keepB hbA);have HB:=Hd hbA;have HSZ:Hid ((w.alloc (.cells #[.int .u64 b.parent,.int .i64 b.height,.int .u64 b.miner,.int .u64 b.work,.int .u64 b.nonce,.slice xa b.txs.length xc] 48)).heap.size=w.heap.size+1):=World.size_alloc ..;have HW:=Hd hw;have HLA:=Hd hlast;have HPO:=Hd hpo;have hcm:=h.mut_lt;have HCM:=Hd hcm;have hlt:=h.lt;have HLT:=Hd hlt
 have hw1:wrap64 (b.height-1)=(n:Int):=by unfold wrap64;omega
 have hw2:IntKind.i64.wrap (b.height-1)=(n:Int):=by rw [IntKind.wrap_i64];omega
 have HHN:=Hd hn;have HL:=Hd hl;have HMB:=Hd h.ne_mb;clear hbA h hw hlast hpo hcm hlt hn hl
 go_enter Tryz.func44,Tryz.ntmps44
 go_upto_region 1 with(fail)
 generalize w.alloc (.cells #[.int .u64 b.parent,.int .i64 b.height,.int .u64 b.miner,.int .u64 b.work,.int .u64 b.nonce,.slice xa b.txs.length xc] 48)=W at*;obtain⟨x0,x1⟩:=box_cells HX.out
 go_wp2_with (at_make;refine wpList_make_cells rfl _ _ rfl Tryz.etyNums (z:= .int .u64 0) (by kernel_rfl) (n:=n) rfl rfl (by first|rfl|exact hw1|exact hw2) (by first|rfl|exact hw1|exact hw2) ?_ ?_ ?_)
 · omega
 · unfold maxLen;omega
 rw [madeRow]
 have HO:Hid (Own u64R w.heap.size 24 (fun x=>False∨W.heap.size≤x) (W.alloc (.cells (rowS [] n).toArray 24)) (.slice (some ⟨W.heap.size,0,none⟩) n n) (List.replicate n 0)):=by
   have:=own_ints (k:= .u64) (base:=W.heap.size) (e:=24) (xs:=List.replicate n (0:Int)) (cap:=n) (cur:=rowS [] n) (box_new W (.cells (rowS [] n).toArray 24)) (by simp [rowS]) (by simp [rowS]) (fun x hx=>by rw [List.eq_of_mem_replicate hx];exact okU_of (by omega) (by omega)) (by simp) (by unfold maxLen;omega) (Nat.le_refl _)
   rw [List.length_replicate]at this;obtain⟨S,css,h1,h2,h3,h4,h5⟩:=this
   refine⟨S,css,h1,h2,h3,h4,h5.1,?_⟩
   rcases h5.2 with h6|⟨g,cap,cur,h6,h7,h8⟩
   · exact .inl h6
   · exact .inr ⟨g,cap,cur,h6,by have:=HSZ.out;omega,h8⟩
 have HXA:=Hd (box_old (o':= .cells (rowS [] n).toArray 24) HX.out);have HBA:=Hd (bnew (Below.refl W.heap.size W) (.cells (rowS [] n).toArray 24));have HSA:Hid ((W.alloc (.cells (rowS [] n).toArray 24)).heap.size=W.heap.size+1):=World.size_alloc ..;generalize W.alloc (.cells (rowS [] n).toArray 24)=W2 at*;clear x0 x1 hw1 hw2;go_wp2_with fail
 go_loopw [10] (fun _ wr=> ∃(j:Nat) (bx:BlkM) (ya:Option Addr) (yc:Nat) (x:List Int),Hid (bx.height=j+1)∧j≤n∧Hid (0<j→bx.parent=l.getD (j-1) 0)∧Hid (okU bx.parent)∧Hid (wr.heap[w.heap.size]? =some (.cells #[.int .u64 bx.parent,.int .i64 bx.height,.int .u64 bx.miner,.int .u64 bx.work,.int .u64 bx.nonce,.slice ya bx.txs.length yc] 48 (0,0)))∧Hid (Own u64R w.heap.size 24 (fun x=>False∨W.heap.size≤x) wr (.slice (some ⟨W.heap.size,0,none⟩) n n) x)∧Hid (x.length=n)∧Hid (∀i,j≤i→x.getD i 0=l.getD i 0)∧Hid (Kept (fun k=>k<w.heap.size) W wr)) (fun _ wr=>heightAt wr w.heap.size)
 case atStart=>exact⟨n,b,xa,xc,List.replicate n 0,HHN,Nat.le_refl _,HLA,HPO,HXA,HO,by show _=_;simp,fun i hi=>by rw [List.getD_eq_getElem?_getD,List.getD_eq_getElem?_getD,List.getElem?_eq_none (by simp;omega),List.getElem?_eq_none (by rw [HL.out];omega)],Kept.of_below HBA.out |>.mono fun k _ h=>by have h':k<w.heap.size:=h;have:=HSZ.out;omega⟩
 case round=>
   obtain⟨j,bx,ya,yc,x,HH,hjn,HPA,HOP,HBX,HOW,HXL,HXE,HK⟩:=hrel
   have hms:heightAt wr w.heap.size=j+1:=by
     show(match wr.cell? ⟨w.heap.size,1,none⟩with|some (.int _ h)=>h.toNat|_=>0)=_
     rw [(box_cells HBX.out).1]
     show bx.height.toNat=_
     rw [HH.out];omega
   have HMS:=Hd hms;clear hms
   cases j with
   |zero=>
    have h1:bx.height=1:=by rw [HH.out];rfl
    have hg:decide (1<bx.height)=false:=decide_eq_false (by omega)
    have hxl:x=l:=by
      apply List.ext_getElem?
      intro i
      have h2:=HXE.out i (Nat.zero_le _);rw [List.getD_eq_getElem?_getD,List.getD_eq_getElem?_getD]at h2
      have h3:=HXL.out;have h4:=HL.out
      rcases Nat.lt_or_ge i n with h5|h5
      · rw [List.getElem?_eq_getElem (by omega),List.getElem?_eq_getElem (by omega)]at h2⊢
        simpa using h2
      · rw [List.getElem?_eq_none (by omega),List.getElem?_eq_none (by omega)]
    subst hxl;obtain⟨x0,x1⟩:=box_cells HBX.out;clear h1;go_wp2_with fail;go_ret
    refine⟨_,rfl,HOW.out.mono fun k _ h=> ?_,?_⟩
    · rcases h with h|h
      · exact .inl h
      · exact .inr (by have:=HSZ.out;omega)
    · have h0:Kept (fun k=>k<w.heap.size) w W:=Kept.of_below HB.out
      exact(h0.trans HK.out fun _ _ h=>h).below (Nat.le_refl _)
   |succ j=>
    have hh:bx.height=(j:Int)+2:=by rw [HH.out];push_cast;omega
    have hjl:j<l.length:=by rw [HL.out];omega
    have hbp:bx.parent=l[j]:=by
      rw [HPA.out (by omega),Nat.add_sub_cancel,List.getD_eq_getElem?_getD,List.getElem?_eq_getElem hjl];rfl
    obtain⟨e,he,heh,hep⟩:=HW.out j hjl;rw [←hbp]at he;have HFE:=Hd he;have HEH:=Hd heh;have HEP:=Hd hep
    have hxj:j<x.length:=by rw [HXL.out];omega
    obtain⟨g,cap,hv,hc1, -,hgl,hgB,hcell,hfr,hst⟩:=HOW.out.setInt j hxj
    simp only [Value.slice.injEq,Option.some.injEq,Addr.mk.injEq,and_true]at hv
    obtain⟨rfl, -,rfl⟩:=hv;obtain⟨ho5,hk5⟩:=hst bx.parent HOP.out;have HO5:=Hd ho5
    have HK5:Hid (Kept (fun k=>k<w.heap.size) W (wr.setCell ⟨W.heap.size,j,none⟩ (.int .u64 bx.parent))):=HK.out.trans hk5 fun k _ h=>by have h':k<w.heap.size:=h;have:=HSZ.out;show k≠_;omega
    have HB5:=Hd (box_kept hk5 HBX.out (show w.heap.size≠W.heap.size by have:=HSZ.out;omega))
    obtain⟨x0,x1⟩:=box_cells HBX.out
    have hg:decide (1<bx.height)=true:=decide_eq_true (by omega)
    have hwi:wrap64 (bx.height-2)=(j:Int):=by unfold wrap64;omega
    have hwj:IntKind.i64.wrap (j:Int)=j:=by rw [IntKind.wrap_i64];omega
    have i0:(0:Int)≤(j:Int):=by omega
    have i1:(j:Int)<(n:Int):=by omega
    have HXL5:Hid ((x.set j bx.parent).length=n):=by show _=_;rw [List.length_set,HXL.out]
    have HXE5:Hid (∀i,j≤i→(x.set j bx.parent).getD i 0=l.getD i 0):=fun i hi=>by
      rcases Nat.lt_or_ge j i with h5|h5
      · rw [←HXE.out i h5,List.getD_eq_getElem?_getD,List.getD_eq_getElem?_getD,List.getElem?_set_ne (by omega)]
      · obtain rfl:i=j:=by omega
        rw [List.getD_eq_getElem?_getD,List.getElem?_set_self hxj,List.getD_eq_getElem?_getD,List.getElem?_eq_getElem hjl,hbp]
    clear hh he heh hep hbp hst ho5 hk5 hc1 hgl hgB
    go_upto_region 4 with(fail)
    generalize wr.setCell ⟨W.heap.size,j,none⟩ (.int .u64 bx.parent)=w5 at*;clear x0 x1 hg hwi hwj i0 i1 hcell hfr;have HC5:=Hd (box_kept HK5.out HC.out.cell (HCM.out c (.inl rfl)));have HM5:=Hd (HC.out.map.keep HK5.out (HCM.out v.mb (.inr (.inl rfl))));have hbd:Below w5.heap.size w5 w5.drew:=(Below.refl _ _).drew;have hlk:=(HM5.out.keepB hbd).found bx.parent HOP.out e HFE.out;have hfb:=fld_blk e.b.parent e.b.height e.b.miner e.b.work e.b.nonce e.tot e.xa e.b.txs.length e.xc;obtain⟨x0,x1⟩:=box_cells HB5.out;obtain⟨y0,y1⟩:=box_cells HC5.out
    simp only [chCells]at y0
    have hkc:=kept_cells w5 (q:=w.heap.size) (S:=fun k=>k≠w.heap.size) (fun h=>h rfl) [.int .u64 e.b.parent,.int .i64 e.b.height,.int .u64 e.b.miner,.int .u64 e.b.work,.int .u64 e.b.nonce,.slice e.xa e.b.txs.length e.xc] 0
    have hbf:Below (w5.setCells w.heap.size 0 [.int .u64 e.b.parent,.int .i64 e.b.height,.int .u64 e.b.miner,.int .u64 e.b.work,.int .u64 e.b.nonce,.slice e.xa e.b.txs.length e.xc]).heap.size (w5.setCells w.heap.size 0 [.int .u64 e.b.parent,.int .i64 e.b.height,.int .u64 e.b.miner,.int .u64 e.b.work,.int .u64 e.b.nonce,.slice e.xa e.b.txs.length e.xc]) (w5.setCells w.heap.size 0 [.int .u64 e.b.parent,.int .i64 e.b.height,.int .u64 e.b.miner,.int .u64 e.b.work,.int .u64 e.b.nonce,.slice e.xa e.b.txs.length e.xc]).drew:=(Below.refl _ _).drew;have HBE:=Hd (box_after hbf (cells_box (old:= [.int .u64 bx.parent,.int .i64 bx.height,.int .u64 bx.miner,.int .u64 bx.work,.int .u64 bx.nonce,.slice ya bx.txs.length yc]) HB5.out [.int .u64 e.b.parent,.int .i64 e.b.height,.int .u64 e.b.miner,.int .u64 e.b.work,.int .u64 e.b.nonce,.slice e.xa e.b.txs.length e.xc] rfl))
    have HKE:Hid (Kept (fun k=>k<w.heap.size) W (w5.setCells w.heap.size 0 [.int .u64 e.b.parent,.int .i64 e.b.height,.int .u64 e.b.miner,.int .u64 e.b.work,.int .u64 e.b.nonce,.slice e.xa e.b.txs.length e.xc]).drew):=(HK5.out.trans hkc fun k _ h=>by have h':k<w.heap.size:=h;show k≠_;omega).trans (Kept.of_below hbf) fun _ _ h=>h
    have HOE:=Hd (Own.keepB (HO5.out.keep (hkc.mono fun k _ h=>by rcases h with h|h;exact h.elim;have:=HSZ.out;show k≠_;omega)) hbf)
    have hop2:okU e.b.parent:=(HC.out.blocks e (List.mem_of_find?_eq_some HFE.out)).1.parent;have HOP2:=Hd hop2;obtain⟨wf,hwf⟩: ∃wf,wf=(w5.setCells w.heap.size 0 [.int .u64 e.b.parent,.int .i64 e.b.height,.int .u64 e.b.miner,.int .u64 e.b.work,.int .u64 e.b.nonce,.slice e.xa e.b.txs.length e.xc]).drew:=⟨_,rfl⟩;rw [←hwf]at HBE HKE HOE
    simp only [World.setCells,Nat.reduceAdd,Nat.zero_add]at hwf
    have HWF:=Hd hwf;clear hkc hbd hbf hwf hop2
    go_region
    go_wp2_with fail;rw [←HWF.out]
    go_roundw
    case rel=>exact⟨j,e.b,e.xa,e.xc,x.set j bx.parent,HEH,by omega,HEP,HOP2,HBE,HOE,HXL5,HXE5,HKE⟩
    case measure=>
      have h1:heightAt wf w.heap.size=j+1:=by
        show(match wf.cell? ⟨w.heap.size,1,none⟩with|some (.int _ h)=>h.toNat|_=>0)=_
        rw [(box_cells HBE.out).1]
        show e.b.height.toNat=_
        rw [HEH.out];omega
      rw [h1,HMS.out];omega
end Go.Proofs.YtjknlhiimmbilaaGreatDoor
/- The chain of the program: finish. -/
set_option maxRecDepth 100000
set_option maxHeartbeats 1000000
namespace Go.Proofs.YtjknlhiimmbilaaGreatDoor
open Go.ChangeShapes Go.WideShapes Go.ChangeAt Go.RowKit Go.Sort
def finM (r:RuM)(m:ChM):ChM:=
 if 1≤(m.best.length:Int)-r.fin∧(m.hgt:Int)<(m.best.length:Int)-r.fin then ⟨m.L,m.best,m.best.getD (((m.best.length:Int)-r.fin).toNat-1) 0,((m.best.length:Int)-r.fin).toNat⟩else m
theorem ChAt.setFinal {c:Nat}{SB PI:Nat→Prop}{w:World}{r:RuM}{m:ChM}{bs:List BlkM}{v:ChV}(h:ChAt c SB PI w r m bs v)(f:Int)(n:Nat):
   ChAt c SB PI ((w.setCell ⟨c,13,none⟩ (.int .u64 f)).setCell ⟨c,14,none⟩ (.int .i64 n)) r ⟨m.L,m.best,f,n⟩ bs v∧Kept (fun k=>k≠c) w ((w.setCell ⟨c,13,none⟩ (.int .u64 f)).setCell ⟨c,14,none⟩ (.int .i64 n)):=by
 have hk:Kept (fun k=>k≠c) w ((w.setCell ⟨c,13,none⟩ (.int .u64 f)).setCell ⟨c,14,none⟩ (.int .i64 n)):=(kept_one w c 13 _).trans (kept_one _ c 14 _) fun _ _ h=>h
 obtain⟨h1,h2,h3,h4,h5⟩:=h.keepC hk
 exact⟨⟨box_set (box_set h.cell),h1,h2,h3,h4,h5,h.free,h.ap1,h.ap2,h.pi,fun k hi=>Nat.lt_of_lt_of_le (h.lt k hi) hk.size⟩,hk⟩
theorem finish_any (c:Nat)(SB PI:Nat→Prop)(w:World)(r:RuM)(m:ChM)(bs:List BlkM)(v:ChV)(h:ChAt c SB PI w r m bs v)(hf1:1≤r.fin)(hf2:r.fin≤1048576)(hl:m.best.length≤100000):
   Calls Tryz.prog 48 #[.pointer (some ⟨c,0,none⟩)] w fun e w'=>e= .returned (.tuple #[])∧ChAt c SB PI w' r (finM r m) bs v∧Kept (fun k=>k≠c) w w':=by
 have H:=Hd h;have y0:=box_regrown h.cell
 simp only [chCells]at y0
 have HU:Hid (finM r m=if 1≤(m.best.length:Int)-r.fin∧(m.hgt:Int)<(m.best.length:Int)-r.fin then ⟨m.L,m.best,m.best.getD (((m.best.length:Int)-r.fin).toNat-1) 0,((m.best.length:Int)-r.fin).toNat⟩else m):=rfl
 have e1:wrap64 ((m.best.length:Int)-r.fin)=(m.best.length:Int)-r.fin:=by unfold wrap64;omega
 clear h
 go_enter Tryz.func48,Tryz.ntmps48
 go_wp2_with fail
 refine wp_region_quiet_below (by kernel_rfl) (by kernel_rfl) ?_
 repeat (first|go_big_quiet_step (fail)|quiet_step (fail))
 refine wpQuiet_nil ?_
 intro w1 hw'
 obtain⟨⟨dq,osq⟩,hw''⟩:=hw';have hbw1:=below_regrown w dq osq;rw [←hw'']at hbw1;clear hw'' y0;have H1:=Hd (H.out.keepB hbw1)
 have HK1:Hid (Kept (fun k=>k≠c) w w1):=Kept.of_below hbw1
 clear hbw1 e1;obtain⟨hh,hhe⟩: ∃x,(m.best.length:Int)-r.fin=x:=⟨_,rfl⟩;rw [hhe]at HU⊢;have HHE:=Hd hhe;clear hhe;obtain⟨y0,y1⟩:=box_cells H1.out.cell
 simp only [chCells]at y0
 by_cases c1:1≤hh
 · by_cases c2:(m.hgt:Int)<hh
   · have HF:=Hd (HU.out.trans (if_pos ⟨c1,c2⟩))
     obtain⟨k,hk⟩: ∃k:Nat,hh=(k:Int)+1:=⟨(hh-1).toNat,by omega⟩
     have hlt:k<m.best.length:=by have:=HHE.out;omega
     obtain⟨bb,off,hba,hbl,hc0,hc2,hcc⟩:=nums_at H1.out.best k hlt
     have hgd:m.best.getD (hh.toNat-1) 0=m.best[k]:=by
       have:hh.toNat-1=k:=by omega
       rw [this,List.getD_eq_getElem?_getD,List.getElem?_eq_getElem hlt];rfl
     have htn:hh.toNat=k+1:=by omega
     rw [hgd,htn]at HF;obtain⟨hat,hkc⟩:=H1.out.setFinal m.best[k] (k+1);have HAT:=Hd hat
     have HKC:=Hd (HK1.out.trans hkc fun _ _ h=>h)
     clear hat hkc hgd htn;generalize m.best[k]=y at*;rw [hba]at y0;subst hk
     have hw1:wrap64 ((k:Int)+1-1)=(k:Int):=by unfold wrap64;omega
     have hw2:wrap64 (k:Int)=(k:Int):=by unfold wrap64;omega
     have hkl:(k:Int)<(m.best.length:Int):=by omega
     clear hba hlt hc0 hc2;go_wp2_with fail
     go_end0
     rw [HF.out]
     exact⟨rfl,HAT.out,HKC.out⟩
   · have HF:=Hd (HU.out.trans (if_neg fun h=>c2 h.2))
     go_wp2_with fail
     go_end0
     rw [HF.out]
     exact⟨rfl,H1.out,HK1.out⟩
 · have HF:=Hd (HU.out.trans (if_neg fun h=>c1 h.1))
   go_wp2_with fail
   go_end0
   rw [HF.out]
   exact⟨rfl,H1.out,HK1.out⟩
end Go.Proofs.YtjknlhiimmbilaaGreatDoor
/- The chain of the program: move. -/
set_option maxRecDepth 100000
set_option maxHeartbeats 2000000
namespace Go.Proofs.YtjknlhiimmbilaaGreatDoor
open Go.ChangeShapes Go.WideShapes Go.ChangeAt Go.RowKit Go.Sort
structure ChStp (c:Nat)(SB PI:Nat→Prop)(v:ChV)(w:World)(SB' PI':Nat→Prop)(v':ChV)(w':World):Prop where
 kept:Kept (fun k=> ¬ChMut c v k) w w'
 turn: ∀k,ChMut c v' k→ChMut c v k∨w.heap.size≤k
 sb: ∀k,SB k→SB' k
 sb': ∀k,SB' k→SB k∨w.heap.size≤k
 pi': ∀k,PI' k→PI k∨ChMut c v k∨w.heap.size≤k
theorem ChStp.refl (c:Nat)(SB PI:Nat→Prop)(v:ChV)(w:World):ChStp c SB PI v w SB PI v w:=⟨Kept.refl _ _,fun _ h=> .inl h,fun _ h=>h,fun _ h=> .inl h,fun _ h=> .inl h⟩
theorem ChStp.trans {c:Nat}{SB PI SB1 PI1 SB2 PI2:Nat→Prop}{v v1 v2:ChV}{w w1 w2:World}(h:ChStp c SB PI v w SB1 PI1 v1 w1)(h':ChStp c SB1 PI1 v1 w1 SB2 PI2 v2 w2):ChStp c SB PI v w SB2 PI2 v2 w2:=by
 have hz:=h.kept.size
 refine⟨h.kept.trans h'.kept fun k hk hn hm=> ?_,fun k hm=> ?_,fun k hs=>h'.sb k (h.sb k hs),fun k hs=> ?_,fun k hi=> ?_⟩
 · rcases h.turn k hm with h1|h1
   · exact hn h1
   · omega
 · rcases h'.turn k hm with h1|h1
   · exact h.turn k h1
   · exact .inr (by omega)
 · rcases h'.sb' k hs with h1|h1
   · exact h.sb' k h1
   · exact .inr (by omega)
 · rcases h'.pi' k hi with h1|h1|h1
   · exact h.pi' k h1
   · rcases h.turn k h1 with h2|h2
     · exact .inr (.inl h2)
     · exact .inr (.inr h2)
   · exact .inr (.inr (by omega))
theorem ChStp.below {c:Nat}{SB PI:Nat→Prop}{v:ChV}{w w':World}(hb:Below w.heap.size w w'):ChStp c SB PI v w SB PI v w':=⟨Kept.of_below hb,fun _ h=> .inl h,fun _ h=>h,fun _ h=> .inl h,fun _ h=> .inl h⟩
theorem ChAt.moved {c:Nat}{SB PI:Nat→Prop}{w w':World}{r:RuM}{m:ChM}{bs bs':List BlkM}{v:ChV}(h:ChAt c SB PI w r m bs v)(hp:PoTo v.p PI v.pv w r (runW r bs') w'):
   ∃(PI':Nat→Prop) (pv':PoV),ChAt c SB PI' w' r m bs' { v with pv:=pv' }∧ChStp c SB PI v w SB PI' { v with pv:=pv' } w':=by
 obtain⟨PI',pv',hat,hk,ht,hi⟩:=hp
 have hs: ∀k,SB k→ ¬PoMut v.p v.pv k:=fun k hk hm=>h.free k (.inr (.inr hm)) hk
 have hc:=box_lt h.cell;have hm:=h.map.lt
 refine⟨PI',pv',⟨(hk.block c hc h.ap1).trans h.cell,fun e=>(h.orc e).keep hk hs,h.map.keep hk h.ap2,fun e he=>⟨(h.blocks e he).1.keep (hk.mono fun k _=>hs k),(h.blocks e he).2⟩,numsR.keep h.best (hk.mono fun k _=>hs k),hat,?_,?_,?_,?_,fun k hs=>Nat.lt_of_lt_of_le (h.lt k hs) hk.size⟩,hk.mono fun k _ hn hm=>hn (.inr (.inr hm)),?_,fun _ h=>h,fun _ h=> .inl h,?_⟩
 · intro k hm hs'
   rcases hm with e|e|e
   · exact h.free k (.inl e) hs'
   · exact h.free k (.inr (.inl e)) hs'
   · rcases ht k e with h1|h1
     · exact hs k hs' h1
     · have:=h.lt k hs';omega
 · intro hm'
   rcases ht c hm' with h1|h1
   · exact h.ap1 h1
   · omega
 · intro hm'
   rcases ht v.mb hm' with h1|h1
   · exact h.ap2 h1
   · omega
 · intro k hk'
   rcases hi k hk' with h1|h1|h1
   · exact h.pi k h1
   · exact⟨fun e=>h.ap1 (e▸h1),fun e=>h.ap2 (e▸h1)⟩
   · exact⟨by omega,by show k≠v.mb;omega⟩
 · intro k hm'
   rcases hm' with e|e|e
   · exact .inl (.inl e)
   · exact .inl (.inr (.inl e))
   · rcases ht k e with h1|h1
     · exact .inl (.inr (.inr h1))
     · exact .inr h1
 · intro k hk'
   rcases hi k hk' with h1|h1|h1
   · exact .inl h1
   · exact .inr (.inl (.inr (.inr h1)))
   · exact .inr (.inr h1)
def MvOut (c:Nat)(SB PI:Nat→Prop)(v:ChV)(w:World)(r:RuM)(m:ChM)(bs':List BlkM)(w':World):Prop:=
 ∃(PI':Nat→Prop) (pv':PoV),ChAt c SB PI' w' r m bs' { v with pv:=pv' }∧ChStp c SB PI v w SB PI' { v with pv:=pv' } w'
theorem move_any (c:Nat) (SB PI:Nat→Prop) (w:World) (r:RuM) (hr:RuOK r) (m:ChM) (pre fb tb:List BlkM) (v:ChV) (h:ChAt c SB PI w r m (pre++fb) v) (hof:RunOK r (pre++fb)) (hot:RunOK r (pre++tb)) (hl1:(pre++fb).length≤200) (hl2:(pre++tb).length≤200)
   (fa:Option Addr) (fc:Nat) (S:Nat→Prop) (ta:Option Addr) (tc:Nat) (tl:List Int) (htl:numsR.rel S w [.slice ta tl.length tc] tl) (hS: ∀k,S k→ ¬ChMut c v k) (hlen:tl.length=tb.length) (hin: ∀(k:Nat) (hk:k<tl.length) (hk':k<tb.length),∃e∈m.L,findS m.L tl[k]=some e∧e.b=tb[k]):
   Calls Tryz.prog 46 #[.pointer (some ⟨c,0,none⟩),.slice fa fb.length fc,.slice ta tl.length tc] w fun e w'=>e= .returned (.tuple #[])∧MvOut c SB PI v w r m (pre++tb) w':=by
 have H:=Hd h;have HTL:=Hd htl;have HS:=Hd hS;have HR:=Hd hr;have HOF:=Hd hof;have HOT:=Hd hot;have HIN:=Hd hin
 have hfl:fb.length≤200:=by rw [List.length_append]at hl1;omega
 have htl2:tl.length≤200:=by rw [List.length_append]at hl2;omega
 have HSL:Hid (∀k,S k→k<w.heap.size→ ¬ChMut c v k):=fun k hk _=>hS k hk
 have HLEN:=Hd hlen;clear h htl hS hr hof hot hin hlen
 go_enter Tryz.func46,Tryz.ntmps46
 go_wp2_with fail
 go_loopw [10] (fun vi wr=> ∃(i:Nat) (PI':Nat→Prop) (pv':PoV),i≤fb.length∧vi= .int .i64 i∧Hid (ChAt c SB PI' wr r m (pre++fb.take (fb.length-i)) { v with pv:=pv' })∧Hid (ChStp c SB PI v w SB PI' { v with pv:=pv' } wr)) (fun vi _=>fb.length-(intOf vi).toNat)
 case atStart=>exact⟨0,PI,v.pv,Nat.zero_le _,rfl,by rw [Nat.sub_zero,List.take_length];exact H,ChStp.refl _ _ _ _ _⟩
 case round=>
   obtain⟨i,PI',pv',hi,rfl,HA,HST⟩:=hrel
   by_cases hlt:i<fb.length
   · obtain⟨j,hj⟩: ∃j,fb.length-i=j+1:=⟨fb.length-i-1,by omega⟩
     have hjl:j<fb.length:=by omega
     have hsn:pre++fb.take (j+1)=(pre++fb.take j)++ [fb[j]]:=by rw [List.take_succ_eq_append_getElem hjl,List.append_assoc]
     have hro:RunOK r ((pre++fb.take j)++ [fb[j]]):=by
       have:=HOF.out.take (pre.length+(j+1));rw [List.take_length_add_append,hsn]at this
       exact this
     rw [hj,hsn]at HA;have HRO:=Hd hro
     have hll:(pre++fb.take j).length≤200:=by rw [List.length_append]at hl1;rw [List.length_append,List.length_take];omega
     have HLL:=Hd hll
     have hj2:fb.length-(i+1)=j:=by omega
     generalize fb[j]=lastb at*;obtain⟨x0,x1⟩:=box_cells HA.out.cell
     simp only [chCells]at x0
     clear hro hsn hll hj;go_wp2_with fail
     refine(undo_run v.p PI' wr r HR.out (pre++fb.take j) lastb HRO.out HLL.out pv' HA.out.state).mono ?_
     rintro e w2 ⟨rfl,hpt⟩;obtain⟨PI2,pv2,ha2,hs2⟩:=HA.out.moved hpt
     have HA2:Hid (ChAt c SB PI2 w2 r m (pre++fb.take (fb.length-(i+1))) { v with pv:=pv2 }):=by rw [hj2];exact ha2
     have HS2:Hid (ChStp c SB PI v w SB PI2 { v with pv:=pv2 } w2):=HST.out.trans hs2
     clear hpt ha2 hs2 x0 x1 hj2 hjl;go_wp2_with fail
     go_roundw
     case rel=>exact⟨i+1,PI2,pv2,by omega,by go_num,HA2,HS2⟩
     case measure=>simp [intOf];omega
   · obtain rfl:i=fb.length:=by omega
     rw [Nat.sub_self,List.take_zero,List.append_nil]at HA;clear hlt hi;go_wp2_with fail;have HTW:=Hd HST
     go_loopw [20] (fun vi wr=> ∃(i:Nat) (PI':Nat→Prop) (pv':PoV),i≤tl.length∧vi= .int .i64 i∧Hid (ChAt c SB PI' wr r m (pre++tb.take i) { v with pv:=pv' })∧Hid (ChStp c SB PI v w SB PI' { v with pv:=pv' } wr)) (fun vi _=>tl.length-(intOf vi).toNat)
     case atStart=>exact⟨0,PI',pv',Nat.zero_le _,rfl,by rw [List.take_zero,List.append_nil];exact HA,HST⟩
     case round=>
       clear HA HST HTW;obtain⟨i,PI2,pv2,hi,rfl,HA,HST⟩:=hrel
       by_cases hlt:i<tl.length
       · have htl3:=numsR.keep HTL.out (HST.out.kept.mono fun k _ hk=>HS.out k hk)
         obtain⟨bb,off,hta,hbl,hcc⟩:=nums_at htl3 i hlt;subst hta
         have hlt2:i<tb.length:=by have:=HLEN.out;omega
         obtain⟨e,hem,hef,heb⟩:=HIN.out i hlt hlt2;have hoy:=ints_wf HTL.out _ (List.getElem_mem hlt)
         have hsn:pre++tb.take (i+1)=(pre++tb.take i)++ [e.b]:=by rw [List.take_succ_eq_append_getElem hlt2,List.append_assoc,heb]
         have hro:RunOK r ((pre++tb.take i)++ [e.b]):=by
           have:=HOT.out.take (pre.length+(i+1));rw [List.take_length_add_append,hsn]at this
           exact this
         have HRO:=Hd hro;have HSN:=Hd hsn
         have hll:(pre++tb.take i).length≤200:=by have:=HLEN.out;rw [List.length_append]at hl2;rw [List.length_append,List.length_take];omega
         have HLL:=Hd hll;have HEM:=Hd hem;have hoy2:=Hd hoy;generalize tl[i]=y at*
         have hlk: ∀(d:Nat) (os:Array Obj),(Instr.lookup 82 (.map (some v.mb)) (.int .u64 y) false).run Tryz.prog (grow (redrawn wr d) os)= .ok (.agg #[.int .u64 e.b.parent,.int .i64 e.b.height,.int .u64 e.b.miner,.int .u64 e.b.work,.int .u64 e.b.nonce,.slice e.xa e.b.txs.length e.xc,.int .u64 e.tot]) (grow (redrawn wr d) os):=fun d os=>(HA.out.map.keepB (below_regrown wr d os)).found y hoy2.out e hef
         have hfb:=fld_blk e.b.parent e.b.height e.b.miner e.b.work e.b.nonce e.tot e.xa e.b.txs.length e.xc;have x0:=box_regrown HA.out.cell
         simp only [chCells]at x0
         clear hoy hro hsn hll hem heb hlt2 htl3 hbl;go_wp2_with fail
         refine wp_region_quiet_tail 11 (by kernel_rfl) (by kernel_rfl) ?_
         simp only [List.take_succ_cons,List.take_zero,List.drop_succ_cons,List.drop_zero]
         repeat (first|go_big_quiet_step (fail)|quiet_step (fail))
         refine wpQuiet_nil ?_
         intro w4 hw'
         obtain⟨⟨dq,osq⟩,hw''⟩:=hw';have hbw4:=below_regrown wr dq osq;rw [←hw'']at hbw4;clear hw'' x0 hlk;have HA4:=Hd (HA.out.keepB hbw4);have HS4:=Hd (HST.out.trans (ChStp.below (SB:=SB) (PI:=PI2) hbw4));obtain⟨hro1,hbo,hae⟩:=HRO.out.last;have HAE:=Hd hae;have hbt:=hbo.txs;have HRO1:=Hd hro1;clear hbw4 hro1 hbo hae hfb;go_wp2_with fail
         refine(apply_run v.p PI2 w4 r HR.out (pre++tb.take i) HRO1.out HLL.out pv2 HA4.out.state SB e.b e.xa e.xc (HA4.out.blocks e HEM.out).1 hbt (fun k hk hm=>HA4.out.free k (.inr (.inr hm)) hk)).mono ?_
         rintro e' w5 ⟨rfl,hpt⟩;rw [apW_ok HAE.out,←runW_snoc]at hpt;obtain⟨PI3,pv3,ha3,hs3⟩:=HA4.out.moved hpt
         have HA3:Hid (ChAt c SB PI3 w5 r m (pre++tb.take (i+1)) { v with pv:=pv3 }):=by rw [HSN.out];exact ha3
         have HS3:Hid (ChStp c SB PI v w SB PI3 { v with pv:=pv3 } w5):=HS4.out.trans hs3
         rw [HAE.out];clear hpt ha3 hs3;go_wp2_with fail
         go_roundw
         case rel=>exact⟨i+1,PI3,pv3,by omega,by go_num,HA3,HS3⟩
         case measure=>simp [intOf];omega
       · obtain rfl:i=tl.length:=by omega
         have HF:Hid (ChAt c SB PI2 wr r m (pre++tb) { v with pv:=pv2 }):=by
           have:=HA.out;rw [HLEN.out,List.take_length]at this
           exact this
         clear hlt hi;go_wp2_with fail
         go_end0
         exact⟨rfl,PI2,pv2,HF.out,HST.out⟩
end Go.Proofs.YtjknlhiimmbilaaGreatDoor
