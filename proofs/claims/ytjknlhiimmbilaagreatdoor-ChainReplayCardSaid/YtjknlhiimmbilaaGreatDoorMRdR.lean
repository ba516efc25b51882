/- The reference's reader, in plain numbers, and that it reads the same witnesses; no conditions. -/
import Derived.Test.YtjknlhiimmbilaaGreatDoorMRd
import Derived.Test.YtjknlhiimmbilaaGreatDoorMSp
import Derived.Test.YtjknlhiimmbilaaGreatDoorMRef
set_option maxRecDepth 100000
namespace Go.Proofs.YtjknlhiimmbilaaGreatDoor
structure RfM where
 b:List Int
 fail:Bool
def RfM.bad (r:RfM):RfM:=⟨r.b,true⟩
def RfM.take (r:RfM)(n:Nat):List Int×RfM:=if r.fail=true∨r.b.length<n then ([],r.bad)else (r.b.take n,⟨r.b.drop n,false⟩)
def RfM.int (r:RfM)(most:Int):Int×RfM:=if (r.take 4).2.fail=true∨most<leN (r.take 4).1 then (0,(r.take 4).2.bad)else (leN (r.take 4).1,(r.take 4).2)
structure Sim (r:RdM)(q:RfM):Prop where
 rok:r.failed=false
 qok:q.fail=false
 pos:r.pos≤r.bytes.length
 same:q.b=r.bytes.drop r.pos
 bytes: ∀d∈r.bytes,0≤d∧d<256
theorem Sim.dig {r:RdM}{q:RfM}(h:Sim r q)(n:Nat):
   ((r.dig n).2.1=true∧(q.take n).2.fail=false∧(r.dig n).1=leN (q.take n).1∧Sim (r.dig n).2.2 (q.take n).2∧0≤(r.dig n).1∧(r.dig n).1<256^n)∨
   ((r.dig n).2.1=false∧(r.dig n).2.2.failed=true∧(q.take n).2.fail=true):=by
 have hl:q.b.length=r.bytes.length-r.pos:=by rw [h.same,List.length_drop]
 have hpos:=h.pos;unfold RdM.dig RfM.take RdM.bad
 by_cases hb:r.bytes.length<r.pos+n
 · right
   have e1:(r.failed||decide (r.bytes.length<r.pos+n))=true:=by simp [hb]
   have e2:q.fail=true∨q.b.length<n:= .inr (by omega)
   rw [if_pos e1,if_pos e2]
   exact⟨rfl,rfl,rfl⟩
 · left
   have e1: ¬(r.failed||decide (r.bytes.length<r.pos+n))=true:=by simp [h.rok,hb]
   have e2: ¬(q.fail=true∨q.b.length<n):=by rw [h.qok];rintro(h|h);cases h;omega
   rw [if_neg e1,if_neg e2]
   have h2:=leN_in ((r.bytes.drop r.pos).take n) fun d hd=>h.bytes d (List.mem_of_mem_drop (List.mem_of_mem_take hd))
   have h3:((r.bytes.drop r.pos).take n).length=n:=by simp;omega
   rw [h3]at h2
   refine⟨rfl,rfl,?_,⟨h.rok,rfl,by simp only [RdM.to];omega,?_,h.bytes⟩,h2.1,h2.2⟩
   · simp only [RdM.num,h.same]
   · simp only [RdM.to,h.same,List.drop_drop]
theorem Sim.int {r:RdM}{q:RfM}(h:Sim r q)(m M:Int)(hm:m≤M)(hM:4294967295≤M∨M=m):
   ((r.int m).1=(q.int M).1∧Sim (r.int m).2 (q.int M).2∧0≤(r.int m).1∧(r.int m).1≤m)∨((r.int m).2.failed=true∧((q.int M).2.fail=true∨m<(q.int M).1)):=by
 unfold RdM.int RfM.int
 rcases h.dig 4 with⟨h1,h2,h3,h4,h5,h6⟩|⟨h1,h2,h3⟩
 · rw [h3]at h5 h6
   rw [h1,h2,h3]
   by_cases hb:m<leN (q.take 4).1
   · right
     rw [if_pos (.inr hb)]
     refine⟨rfl,?_⟩
     rcases hM with hM|rfl
     · rw [if_neg (by simp;omega)];exact .inr hb
     · rw [if_pos (.inr hb)];exact .inl rfl
   · left
     rw [if_neg (by simp;omega),if_neg (by simp;omega)]
     exact⟨rfl,h4,h5,by show leN (q.take 4).1≤m;omega⟩
 · right
   rw [if_pos (.inl h1),if_pos (.inl h3)]
   exact⟨rfl,.inl rfl⟩
end Go.Proofs.YtjknlhiimmbilaaGreatDoor
/- The reference's reader: take, Value, Uint, Int, List. -/
set_option maxRecDepth 100000
set_option maxHeartbeats 2000000
namespace Go.Proofs.YtjknlhiimmbilaaGreatDoor
open Go.ChangeShapes Go.WideShapes Go.ChangeAt Go.RowKit Go.Sort
theorem sliceR.takeN {α:Type}{r:Rep α}{S:Nat→Prop}{w:World}{a:Option Addr}{len cap:Nat}{xs:List α}(h:(sliceR r).rel S w [.slice a len cap] xs)(n:Nat)(hn:n≤xs.length):(sliceR r).rel S w [.slice a n cap] (xs.take n):=by
 obtain⟨a',len',cap',hv,h1,h2,h3,h4,h5⟩:=h
 simp at hv
 obtain⟨rfl,rfl,rfl⟩:=hv
 refine⟨_,n,_,rfl,by simp;omega,by omega,h3,h4,fun i x hx=> ?_⟩
 have hi:i<n:=by
   have:=(List.getElem?_eq_some_iff.1 hx).1
   simp at this;omega
 rw [List.getElem?_take,if_pos hi]at hx
 exact h5 i x hx
theorem sliceR.dropN {α:Type}{r:Rep α}{S:Nat→Prop}{w:World}{b off len cap:Nat}{xs:List α}(h:(sliceR r).rel S w [.slice (some ⟨b,off,none⟩) len cap] xs)(n:Nat)(hn:n≤xs.length):(sliceR r).rel S w [.slice (some ⟨b,off+n*r.n,none⟩) (len-n) (cap-n)] (xs.drop n):=by
 obtain⟨a',len',cap',hv,h1,h2,h3,h4,h5⟩:=h
 simp at hv
 obtain⟨rfl,rfl,rfl⟩:=hv
 refine⟨_,_,_,rfl,by simp;omega,by omega,by omega,(fun h=>by cases h),fun i x hx=> ?_⟩
 rw [List.getElem?_drop]at hx;obtain⟨b',off',es,ha,hb,hr,hc,hlt⟩:=h5 (n+i) x hx
 simp at ha
 obtain⟨rfl,rfl⟩:=ha
 refine⟨_,_,es,rfl,hb,hr,?_,hlt⟩
 rw [show off+n*r.n+i*r.n=off+(n+i)*r.n by rw [Nat.add_mul];omega]
 exact hc
theorem bytes_in {S:Nat→Prop}{w:World}{a:Option Addr}{len cap:Nat}{l:List Int}(h:bytesR.rel S w [.slice a len cap] l): ∀x∈l,0≤x∧x<256:=by
 intro x hx
 obtain⟨k,hk,rfl⟩:=List.getElem_of_mem hx;obtain⟨b,off, -, -, -,h1,h2, -⟩:=bytes_at h k hk
 exact⟨h1,h2⟩
theorem pow256: ∀k:Fin 9,((k.val≤4→(256:Int)^k.val≤4294967296)∧(256:Int)^k.val≤18446744073709551616)∧(k.val≤7→(256:Int)^k.val≤72057594037927936):=by decide+kernel
end Go.Proofs.YtjknlhiimmbilaaGreatDoor
