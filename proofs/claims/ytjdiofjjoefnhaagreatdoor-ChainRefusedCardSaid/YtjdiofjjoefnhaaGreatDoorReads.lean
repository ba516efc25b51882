/- Opening rules and transactions that come as arguments. -/
import Derived.Test.YtjdiofjjoefnhaaGreatDoorRows
import Derived.Test.YtjdiofjjoefnhaaGreatDoorMFld
set_option maxRecDepth 100000
namespace Go.Proofs.YtjdiofjjoefnhaaGreatDoor
open Go.ChangeShapes Go.WideShapes Go.ChangeAt Go.RowKit
theorem own:ownKnob Tryz.prog.godebug=none:=by kernel_rfl
theorem laidOut:laidOutB Tryz.prog=true:=by kernel_rfl
structure xW where
 mode:Int
 depth:Int
 bl:Int
 bu:Int
 q:Int
 iz:Int
 win:Int
 fin:Int
 work:Int
def sx:kS xW:=zj (fun r=>(r.mode,r.depth,(r.bl,r.bu,r.q),r.iz,r.win,r.fin,r.work))
 (jB (j9 .i64) (jB (j9 .i64) (jB (jB (j9 .i64) (jB (j9 .i64) (j9 .i64))) (jB ib (jB (j9 .i64) (jB (j9 .i64) ib))))))
theorem sx.inv {S:Nat→Prop}{w:World}{cs:List Value}{r:xW}(h:sx.rel S w cs r):cs= [.int .i64 r.mode,.int .i64 r.depth,.int .i64 r.bl,.int .i64 r.bu,.int .i64 r.q,.int .u64 r.iz,.int .i64 r.win,.int .i64 r.fin,.int .u64 r.work]:=by
 obtain⟨_,_,rfl,⟨rfl, -⟩,_,_,rfl,⟨rfl, -⟩,_,_,rfl,⟨_,_,rfl,⟨rfl, -⟩,_,_,rfl,⟨rfl, -⟩,⟨rfl, -⟩⟩,_,_,rfl,⟨rfl, -⟩,_,_,rfl,⟨rfl, -⟩,_,_,rfl,⟨rfl, -⟩,⟨rfl, -⟩⟩:=h;rfl
section
variable {H:Type} {enc:TypeId×Value→H} {W:World}
theorem m9:Reads H enc Tryz.prog W (j9 .i64) 3:=Reads.int Tryz.underlying3
theorem kP:Reads H enc Tryz.prog W ib 24:=Reads.int Tryz.underlying24
theorem Jb:Reads H enc Tryz.prog W (j9 .u8) 5:=Reads.int Tryz.underlying5
theorem yA:Reads H enc Tryz.prog W gZ 55:=kP.slice Tryz.underlying55 (by kernel_rfl) (pb 0)
theorem Dt:Reads H enc Tryz.prog W hD 52:=Jb.slice Tryz.underlying52 (by kernel_rfl) (pb 0)
theorem Ds:Reads H enc Tryz.prog W (jB ib ib) 154:=Reads.array2 Tryz.underlying154 (by kernel_rfl) (by kernel_rfl) kP
theorem GV:Reads H enc Tryz.prog W qL 156:=
 Reads.map (fun x=>⟨x.1,x.2.1.1,x.2.1.2,x.2.2⟩) _ (fun _=>rfl) (Reads.struct Tryz.underlying156 (by kernel_rfl)
  (.more rfl (by kernel_rfl) kP (.more rfl (by kernel_rfl) Ds (.last rfl (by kernel_rfl) yA))))
theorem EO:Reads H enc Tryz.prog W mK 85:=GV.slice Tryz.underlying85 (by kernel_rfl) (by rw [qL.n];omega)
theorem CH:Reads H enc Tryz.prog W zI 87:=
 Reads.map (fun(a,b,c,d,e,f,g,h,i,j)=>⟨a,b,c,d,e,f,g,h,i,j⟩) _ (fun _=>rfl) (Reads.struct Tryz.underlying87 (by kernel_rfl)
  (.more rfl (by kernel_rfl) kP (.more rfl (by kernel_rfl) yA (.more rfl (by kernel_rfl) EO (.more rfl (by kernel_rfl) kP (.more rfl (by kernel_rfl) kP (.more rfl (by kernel_rfl) kP
    (.more rfl (by kernel_rfl) kP (.more rfl (by kernel_rfl) kP (.more rfl (by kernel_rfl) m9 (.last rfl (by kernel_rfl) Dt)))))))))))
theorem BA:Reads H enc Tryz.prog W (jB (j9 .i64) (jB (j9 .i64) (j9 .i64))) 23:=
 Reads.struct Tryz.underlying23 (by kernel_rfl) (.more rfl (by kernel_rfl) m9 (.more rfl (by kernel_rfl) m9 (.last rfl (by kernel_rfl) m9)))
theorem wC:Reads H enc Tryz.prog W sx 26:=
 Reads.map (fun(a,b,(c,d,e),f,g,h,i)=>⟨a,b,c,d,e,f,g,h,i⟩) _ (fun _=>rfl) (Reads.struct Tryz.underlying26 (by kernel_rfl)
  (.more rfl (by kernel_rfl) m9 (.more rfl (by kernel_rfl) m9 (.more rfl (by kernel_rfl) BA (.more rfl (by kernel_rfl) kP (.more rfl (by kernel_rfl) m9 (.more rfl (by kernel_rfl) m9 (.last rfl (by kernel_rfl) kP))))))))
theorem MW {rc:Reach}{j:Nat}{v:Value}{d:DataW H}{ps:List MemPlace}(y:Value.okWide Tryz.prog W rc j 26 v)(h:DataW.Trod enc Tryz.prog W 0 (fun _=>true) true 26 v d ps):
 ∃r:xW,v= .agg #[.int .i64 r.mode,.int .i64 r.depth,.int .i64 r.bl,.int .i64 r.bu,.int .i64 r.q,r.iz,.int .i64 r.win,.int .i64 r.fin,r.work]:=by
 obtain⟨⟨cs⟩,r,rfl,hr⟩:=nv (P:=Tryz.prog) Tryz.underlying26 wC y h;have u:cs=_:=sx.inv hr;exact⟨r,by rw [u]⟩
theorem Pa {rc:Reach}{j:Nat}{v:Value}{d:DataW H}{ps:List MemPlace}(G:Value.okWide Tryz.prog W rc j 87 v)(h:DataW.Trod enc Tryz.prog W 0 (fun _=>true) true 87 v d ps):
 ∃(t:jO) (ma oa pa:Option Addr) (mc oc pc:Nat),v= .agg (jQ t ma mc oa oc pa pc)∧ks (fun k=>k<W.heap.size) W t ma oa pa mc oc pc:=by
 obtain⟨⟨cs⟩,t,rfl,hr⟩:=nv (P:=Tryz.prog) Tryz.underlying87 CH G h;obtain⟨ma,oa,pa,mc,oc,pc,u,z⟩:=zI.inv hr;have y:cs=_:=u;exact⟨t,ma,oa,pa,mc,oc,pc,by rw [y];rfl,z⟩
end
end Go.Proofs.YtjdiofjjoefnhaaGreatDoor
