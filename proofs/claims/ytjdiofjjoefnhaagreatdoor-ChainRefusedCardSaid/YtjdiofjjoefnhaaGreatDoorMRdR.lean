/- The reference's reader, in plain numbers, and that it reads the same witnesses; no conditions. -/
import Derived.Test.YtjdiofjjoefnhaaGreatDoorMRef
set_option maxRecDepth 100000
set_option maxHeartbeats 2000000
namespace Go.Proofs.YtjdiofjjoefnhaaGreatDoor
structure iY where
 b:List Int
 fail:Bool
def iY.bad (r:iY):iY:=⟨r.b,true⟩
def iY.take (r:iY)(n:Nat):List Int×iY:=if r.fail=true\/r.b.length<n then ([],r.bad)else (r.b.take n,⟨r.b.drop n,false⟩)
def iY.uint (r:iY)(most:Int):Int×iY:=if (r.take 8).2.fail=true\/most<nh (r.take 8).1 then (0,(r.take 8).2.bad)else (nh (r.take 8).1,(r.take 8).2)
def iY.int (r:iY)(most:Int):Int×iY:=if (r.take 4).2.fail=true\/most<nh (r.take 4).1 then (0,(r.take 4).2.bad)else (nh (r.take 4).1,(r.take 4).2)
def iY.many (p:Int):Nat->iY->List Int->List Int×iY
 |0,r,acc=>(acc,r)
 |k+1,r,acc=>if p<=nh (r.take 8).1 then ([],(r.take 8).2.bad)else iY.many p k (r.take 8).2 (acc++ [nh (r.take 8).1])
def iY.list (r:iY)(most p:Int):List Int×iY:=
 if (r.int most).2.fail=true\/((r.int most).2.b.length:Int) / 8<(r.int most).1 then ([],(r.int most).2.bad)else iY.many p (r.int most).1.toNat (r.int most).2 []
def iY.n1 (r:iY):iY:=(r.uint 18446744073709551615).2
def iY.n2 (r:iY):iY:=(r.n1.uint 18446744073709551615).2
def iY.n3 (r:iY):iY:=(r.n2.uint 18446744073709551615).2
def iY.n4 (r:iY):iY:=(r.n3.uint 18446744073709551615).2
def iY.note (r:iY):jZ:=⟨(r.uint 18446744073709551615).1,(r.n1.uint 18446744073709551615).1,(r.n2.uint 18446744073709551615).1,(r.n3.uint 18446744073709551615).1⟩
def iY.s1 (r:iY):iY:=(r.n4.uint 18446744073709551615).2
def iY.s2 (r:iY):iY:=(r.s1.int 4294967296).2
def iY.s3 (r:iY):iY:=(r.s2.int 4294967296).2
def iY.s4 (r:iY):iY:=(r.s3.list 12 18446744069414584321).2
def iY.s5 (r:iY):iY:=(r.s4.int 1).2
def iY.lR (r:iY):iR:=⟨r.note,(r.n4.uint 18446744073709551615).1,(r.s1.int 4294967296).1,(r.s2.int 4294967296).1,(r.s3.list 12 18446744069414584321).1,(r.s4.int 1).1==1⟩
def iY.jE:Nat->iY->List iR->List iR×iY
 |0,r,acc=>(acc,r)
 |k+1,r,acc=>if r.fail=true then (acc,r)else iY.jE k r.s5 (acc++ [r.lR])
def iY.notes:Nat->iY->List jZ->List jZ×iY
 |0,r,acc=>(acc,r)
 |k+1,r,acc=>if r.fail=true then (acc,r)else iY.notes k r.n4 (acc++ [r.note])
def kG (x:iR):Bool:=decide (x.path.length<=12/\0<=x.hO/\x.hO<4096)&&(ja x.note&&(jC x.key&&(decide (0<=x.number/\x.number<4)&&h' x.path)))
def lw (t:po):Bool:=decide (t.ins.length<=4/\t.outs.length<=4)&&(jC t.hU&&(t.ins.all kG&&t.outs.all ja))
def iS (bs:List Int):Option po:=
 match iY.jE (iY.int ⟨bs,false⟩ 4).1.toNat (iY.int ⟨bs,false⟩ 4).2 []with
 |(ins,r)=>match iY.notes (r.int 4).1.toNat (r.int 4).2 []with
    |(outs,j)=>if (j.uint 18446744073709551615).2.fail=true\/(j.uint 18446744073709551615).2.b.length>0\/lw ⟨ins,outs,(j.uint 18446744073709551615).1⟩=false then none else some ⟨ins,outs,(j.uint 18446744073709551615).1⟩
theorem QA {a b c d e:Bool}(j:a=true)(u:b=true)(y:c=true)(z:d=true)(G:e=true):(a&&(b&&(c&&(d&&e))))=true:=by subst j u y z G;rfl
theorem Oj {a b c d e:Bool}(h:d=false):(a&&(b&&(c&&(d&&e))))=false:=by subst h;simp
theorem Ok {a b:Bool}(h:a=false):(a&&b)=false:=by subst h;rfl
structure p5 (r:i5)(q:iY):Prop where
 OL:r.failed=false
 L5:q.fail=false
 pos:r.pos<=r.bytes.length
 same:q.b=r.bytes.drop r.pos
 bytes: ∀d∈r.bytes,0<=d/\d<256
theorem p5.nK {r:i5}{q:iY}(h:p5 r q)(n:Nat):
 ((r.nK n).2.1=true/\(q.take n).2.fail=false/\(r.nK n).1=nh (q.take n).1/\p5 (r.nK n).2.2 (q.take n).2/\0<=(r.nK n).1/\(r.nK n).1<256^n)\/
 ((r.nK n).2.1=false/\(r.nK n).2.2.failed=true/\(q.take n).2.fail=true):=by
 have K:q.b.length=r.bytes.length-r.pos:=by rw [h.same,Ts]
 have U:=h.pos;unfold i5.nK iY.take i5.bad;by_cases y:r.bytes.length<r.pos+n
 ·right
  have j:(r.failed||decide (r.bytes.length<r.pos+n))=true:=(by simp [y]);have u:q.fail=true\/q.b.length<n:= .inr UN;rw [g7 j,g7 u];exact⟨rfl,rfl,rfl⟩
 ·left
  have j: ¬(r.failed||decide (r.bytes.length<r.pos+n))=true:=(by simp [h.OL,y]);have u: ¬(q.fail=true\/q.b.length<n):=(by rw [h.L5];rintro(h|h);cases h;omega);rw [g3 j,g3 u];have h2:=qx ((r.bytes.drop r.pos).take n) λd G=>h.bytes d (TQ (TV G));have z:((r.bytes.drop r.pos).take n).length=n:=(by simp;omega);rw [z]at h2;refine⟨rfl,rfl,?_,⟨h.OL,rfl,by simp only [i5.to];omega,?_,h.bytes⟩,h2.1,h2.2⟩
  ·simp only [i5.num,h.same]
  ·simp only [i5.to,h.same,List.drop_drop]
theorem yR {r:i5}(h:r.failed=true)(n:Nat):(r.nK n).2.1=false/\(r.nK n).2.2.failed=true/\(r.nK n).1=0:=by
 unfold i5.nK i5.bad;simp [h,i5.fail]
theorem wu {q:iY}(h:q.fail=true)(n:Nat):(q.take n).2.fail=true:=by
 unfold iY.take;simp [h,iY.bad]
theorem jU {r:i5}(h:r.failed=true)(m:Int):(r.uint m).2.failed=true:=by
 unfold i5.uint;rw [g7 (.inl (yR h 8).1)];rfl
theorem kj {r:i5}(h:r.failed=true)(m:Int):(r.int m).2.failed=true:=by
 unfold i5.int;rw [g7 (.inl (yR h 4).1)];rfl
theorem oT {r:i5}(h:r.failed=true)(m p:Int):(r.list m p).2.failed=true:=by
 unfold i5.list;rw [g7 (.inl (kj h m))];rfl
theorem kW {q:iY}(h:q.fail=true)(m:Int):(q.uint m).2.fail=true:=by
 unfold iY.uint;rw [g7 (.inl (wu h 8))];rfl
theorem kE {q:iY}(h:q.fail=true)(m:Int):(q.int m).2.fail=true:=by
 unfold iY.int;rw [g7 (.inl (wu h 4))];rfl
theorem px {q:iY}(h:q.fail=true)(m p:Int):(q.list m p).2.fail=true:=by
 unfold iY.list;rw [g7 (.inl (kE h m))];rfl
theorem p5.uint {r:i5}{q:iY}(h:p5 r q)(m M:Int)(U:m<=M)(z:18446744073709551615<=M\/M=m):
 ((r.uint m).1=(q.uint M).1/\p5 (r.uint m).2 (q.uint M).2/\0<=(r.uint m).1/\(r.uint m).1<=m)\/((r.uint m).2.failed=true/\((q.uint M).2.fail=true\/m<(q.uint M).1)):=by
 unfold i5.uint iY.uint;rcases h.nK 8 with⟨h1,h2,j,G,y,K⟩|⟨h1,h2,j⟩
 ·rw [j]at y K
  rw [h1,h2,j];by_cases u:m<nh (q.take 8).1
  ·right
   rw [g7 (.inr u)];refine⟨rfl,?_⟩;rcases z with z|rfl
   ·rw [g3 (by simp;omega)];exact .inr u
   ·rw [g7 (.inr u)];exact .inl rfl
  ·left
   rw [g3 (by simp;omega),g3 (by simp;omega)];exact⟨rfl,G,y,by show nh (q.take 8).1<=m;omega⟩
 ·right
  rw [g7 (.inl h1),g7 (.inl j)];exact⟨rfl,.inl rfl⟩
theorem p5.int {r:i5}{q:iY}(h:p5 r q)(m M:Int)(U:m<=M)(z:4294967295<=M\/M=m):
 ((r.int m).1=(q.int M).1/\p5 (r.int m).2 (q.int M).2/\0<=(r.int m).1/\(r.int m).1<=m)\/((r.int m).2.failed=true/\((q.int M).2.fail=true\/m<(q.int M).1)):=by
 unfold i5.int iY.int;rcases h.nK 4 with⟨h1,h2,j,G,y,K⟩|⟨h1,h2,j⟩
 ·rw [j]at y K
  rw [h1,h2,j];by_cases u:m<nh (q.take 4).1
  ·right
   rw [g7 (.inr u)];refine⟨rfl,?_⟩;rcases z with z|rfl
   ·rw [g3 (by simp;omega)];exact .inr u
   ·rw [g7 (.inr u)];exact .inl rfl
  ·left
   rw [g3 (by simp;omega),g3 (by simp;omega)];exact⟨rfl,G,y,by show nh (q.take 4).1<=m;omega⟩
 ·right
  rw [g7 (.inl h1),g7 (.inl j)];exact⟨rfl,.inl rfl⟩
theorem p5.Ke {r:i5}{q:iY}(h:p5 r q)(m:Int):
 ((r.int m).1=(q.int m).1/\p5 (r.int m).2 (q.int m).2/\0<=(r.int m).1/\(r.int m).1<=m)\/((r.int m).2.failed=true/\(q.int m).2.fail=true):=by
 unfold i5.int iY.int;rcases h.nK 4 with⟨h1,h2,j,z,u,G⟩|⟨h1,h2,j⟩
 ·rw [j]at u G
  rw [h1,h2,j];by_cases y:m<nh (q.take 4).1
  ·right
   rw [g7 (.inr y),g7 (.inr y)];exact⟨rfl,rfl⟩
  ·left
   rw [g3 (by simp;omega),g3 (by simp;omega)];exact⟨rfl,z,u,by show nh (q.take 4).1<=m;omega⟩
 ·right
  rw [g7 (.inl h1),g7 (.inl j)];exact⟨rfl,rfl⟩
theorem p5.many (p:Int): ∀(k:Nat) (r:i5) (q:iY) (acc:List Int),p5 r q->k*8<=q.b.length->(∀x∈acc,x<p)->
 ((i5.many p k r acc).1=(iY.many p k q acc).1/\p5 (i5.many p k r acc).2 (iY.many p k q acc).2/\(∀x∈(iY.many p k q acc).1,x<p)/\(iY.many p k q acc).1.length=acc.length+k)\/
 ((i5.many p k r acc).2.failed=true/\(iY.many p k q acc).2.fail=true)
 |0,r,q,acc,h,_,z=> .inl ⟨rfl,h,z,rfl⟩
 |k+1,r,q,acc,h,ad,z=>by
  have ae:(q.take 8).2.b.length=q.b.length-8:=by
   unfold iY.take;rw [g3 (by rw [h.L5];rintro(h|h);cases h;omega)];simp
  rcases h.nK 8 with⟨h1,h2,j,U,Y,ab⟩|⟨h1,h2,j⟩
  ·unfold i5.many iY.many
   rw [j];by_cases y:p<=nh (q.take 8).1
   ·rw [g7 y,g7 y]
    exact .inr ⟨rfl,rfl⟩
   ·rw [g3 y,g3 y]
    have:=p5.many p k (r.nK 8).2.2 (q.take 8).2 (acc++ [nh (q.take 8).1]) U UN (by
     intro x u;rcases Ti.1 u with u|u
     ·exact z x u
     ·simp at u;omega)
    rw [U3,TF]at this;rcases this with⟨G,a2,K,V⟩|h
    ·exact .inl ⟨G,a2,K,UN⟩
    ·exact .inr h
  ·exfalso
   unfold iY.take at j;rw [g3 (by rw [h.L5];rintro(h|h);cases h;omega)]at j
   cases j
theorem AJ {p:Nat->Bool}: ∀ {n:Nat},(∀k,k<n->p k=true)->jv p n=true
 |0,_=>rfl
 |n+1,h=>lg (AJ λk j=>h k UN) (h n UN)
theorem Hs {l:List Int}(h: ∀x∈l,x<18446744069414584321):h' l=true:=by
 refine AJ λk j=>iP ?_;rw [getD_at l 0 k j];exact h _ (z3 j)
theorem p5.list {r:i5}{q:iY}(h:p5 r q)(m:Int):
 ((r.list m 18446744069414584321).1=(q.list m 18446744069414584321).1/\p5 (r.list m 18446744069414584321).2 (q.list m 18446744069414584321).2/\h' (q.list m 18446744069414584321).1=true/\((q.list m 18446744069414584321).1.length:Int)<=m)\/
 ((r.list m 18446744069414584321).2.failed=true/\(q.list m 18446744069414584321).2.fail=true):=by
 unfold i5.list iY.list;rcases h.Ke m with⟨h1,h2,G,K⟩|⟨h1,h2⟩
 ·have U:(q.int m).2.b.length=(r.int m).2.bytes.length-(r.int m).2.pos:=by rw [h2.same,Ts]
  rw [h2.OL,h2.L5,U,h1];by_cases j:(((r.int m).2.bytes.length-(r.int m).2.pos:Nat):Int) / 8<(q.int m).1
  ·rw [g7 (.inr j),g7 (.inr j)]
   exact .inr ⟨rfl,rfl⟩
  ·rw [g3 (by simp;omega),g3 (by simp;omega)]
   rw [h1]at G K;rcases p5.many 18446744069414584321 (q.int m).1.toNat _ _ [] h2 UN (λx V=>by cases V)with⟨u,a2,y,z⟩|h
   ·exact .inl ⟨u,a2,Hs y,by rw [z];simp;omega⟩
   ·exact .inr h
 ·rw [g7 (.inl h1),g7 (.inl h2)]
  exact .inr ⟨rfl,rfl⟩
theorem wF {r:i5}(h:r.failed=true):r.n4.failed=true:=jU (jU (jU (jU h _) _) _) _
theorem Bu {r:i5}(h:r.failed=true):r.s5.failed=true:=kj (oT (kj (kj (jU (wF h) _) _) _) _ _) _
theorem p5.note {r:i5}{q:iY}(h:p5 r q):(r.note=q.note/\p5 r.n4 q.n4/\ja q.note=true)\/(r.n4.failed=true/\(q.n4.fail=true\/ja q.note=false)):=by
 rcases h.uint 4294967295 18446744073709551615 UN (.inl UN)with⟨j,s1,a2,y⟩|⟨f,g⟩
 ·rcases p5.uint (r:=r.n1) (q:=q.n1) s1 18446744069414584320 18446744073709551615 UN (.inl UN)with⟨u,s2,b2,b3⟩|⟨f,g⟩
  ·rcases p5.uint (r:=r.n2) (q:=q.n2) s2 18446744069414584320 18446744073709551615 UN (.inl UN)with⟨c1,s3,c2,z⟩|⟨f,g⟩
   ·rcases p5.uint (r:=r.n3) (q:=q.n3) s3 18446744069414584320 18446744073709551615 UN (.inl UN)with⟨d1,s4,G,K⟩|⟨f,g⟩
    ·left
     refine⟨by simp only [i5.note,iY.note,j,u,c1,d1],s4,?_⟩;exact iP (by simp only [iY.note];omega)
    ·right
     refine⟨f,g.imp id λg=> ?_⟩;exact iH (by simp only [iY.note];omega)
   ·right
    refine⟨jU f _,g.imp (λg=>kW g _) λg=> ?_⟩;exact iH (by simp only [iY.note];omega)
  ·right
   refine⟨jU (jU f _) _,g.imp (λg=>kW (kW g _) _) λg=> ?_⟩;exact iH (by simp only [iY.note];omega)
 ·right
  refine⟨jU (jU (jU f _) _) _,g.imp (λg=>kW (kW (kW g _) _) _) λg=> ?_⟩;exact iH (by simp only [iY.note];omega)
theorem p5.lR {r:i5}{q:iY}(h:p5 r q):(r.lR=q.lR/\p5 r.s5 q.s5/\kG q.lR=true)\/(r.s5.failed=true/\(q.s5.fail=true\/kG q.lR=false)):=by
 rcases h.note with⟨y,s1,a2⟩|⟨f,g⟩
 ·rcases p5.uint (r:=r.n4) (q:=q.n4) s1 18446744069414584320 18446744073709551615 UN (.inl UN)with⟨z,s2,b2,b3⟩|⟨f,g⟩
  ·rcases p5.int (r:=r.s1) (q:=q.s1) s2 3 4294967296 UN (.inl UN)with⟨c1,s3,c2,ab⟩|⟨f,g⟩
   ·rcases p5.int (r:=r.s2) (q:=q.s2) s3 4095 4294967296 UN (.inl UN)with⟨d1,s4,ad,ae⟩|⟨f,g⟩
    ·rcases p5.list (r:=r.s3) (q:=q.s3) s4 12 with⟨G,s5,K,af⟩|⟨f,g⟩
     ·rcases p5.Ke (r:=r.s4) (q:=q.s4) s5 1 with⟨U,Y,ag,ah⟩|⟨f,g⟩
      ·left
       refine⟨by simp only [i5.lR,iY.lR,y,z,c1,d1,G,U],Y,?_⟩;have k1:jC (q.n4.uint 18446744073709551615).1=true:=iP UN;have V:decide (0<=(q.s1.int 4294967296).1/\(q.s1.int 4294967296).1<4)=true:=iP UN;have u:decide ((q.s3.list 12 18446744069414584321).1.length<=12/\0<=(q.s2.int 4294967296).1/\(q.s2.int 4294967296).1<4096)=true:=iP UN;exact QA u a2 k1 V K
      ·exact .inr ⟨f,.inl g⟩
     ·exact .inr ⟨kj f _,.inl (kE g _)⟩
    ·right
     refine⟨kj (oT f _ _) _,g.imp (λg=>kE (px g _ _) _) λg=> ?_⟩;have u:decide ((q.s3.list 12 18446744069414584321).1.length<=12/\0<=(q.s2.int 4294967296).1/\(q.s2.int 4294967296).1<4096)=false:=iH UN;exact Ok u
   ·right
    refine⟨kj (oT (kj f _) _ _) _,g.imp (λg=>kE (px (kE g _) _ _) _) λg=> ?_⟩;have j:decide (0<=(q.s1.int 4294967296).1/\(q.s1.int 4294967296).1<4)=false:=iH UN;exact Oj j
  ·right
   refine⟨kj (oT (kj (kj f _) _) _ _) _,g.imp (λg=>kE (px (kE (kE g _) _) _ _) _) λg=> ?_⟩;have j:jC (q.n4.uint 18446744073709551615).1=false:=iH UN;simp only [kG,iY.lR,j,kH,ll]
 ·right
  refine⟨kj (oT (kj (kj (jU f _) _) _) _ _) _,g.imp (λg=>kE (px (kE (kE (kW g _) _) _) _ _) _) λg=> ?_⟩;simp only [kG,iY.lR,g,kH,ll]
theorem qD: ∀(k:Nat) (r:i5) (acc:List iR),r.failed=true->(i5.jE k r acc).2.failed=true
 |0,_,_,h=>h
 |k+1,_,_,h=>qD k _ _ (Bu h)
theorem py: ∀(k:Nat) (r:i5) (acc:List jZ),r.failed=true->(i5.notes k r acc).2.failed=true
 |0,_,_,h=>h
 |k+1,_,_,h=>py k _ _ (wF h)
theorem tf: ∀(k:Nat) (q:iY) (acc:List iR),q.fail=true->(iY.jE k q acc).2.fail=true
 |0,_,_,h=>h
 |k+1,_,_,h=>by unfold iY.jE;rw [g7 h];exact h
theorem qE: ∀(k:Nat) (q:iY) (acc:List jZ),q.fail=true->(iY.notes k q acc).2.fail=true
 |0,_,_,h=>h
 |k+1,_,_,h=>by unfold iY.notes;rw [g7 h];exact h
theorem wy: ∀(k:Nat) (q:iY) (acc:List iR),acc.all kG=false->(iY.jE k q acc).1.all kG=false
 |0,_,_,h=>h
 |k+1,q,acc,h=>by
  unfold iY.jE;split
  ·exact h
  ·exact wy k _ _ (by rw [Uf,h,kH])
theorem yw: ∀(k:Nat) (q:iY) (acc:List jZ),acc.all ja=false->(iY.notes k q acc).1.all ja=false
 |0,_,_,h=>h
 |k+1,q,acc,h=>by
  unfold iY.notes;split
  ·exact h
  ·exact yw k _ _ (by rw [Uf,h,kH])
theorem p5.jE: ∀(k:Nat) (r:i5) (q:iY) (acc:List iR),p5 r q->acc.all kG=true->
 ((i5.jE k r acc).1=(iY.jE k q acc).1/\p5 (i5.jE k r acc).2 (iY.jE k q acc).2/\(iY.jE k q acc).1.all kG=true/\(iY.jE k q acc).1.length=acc.length+k)\/
 ((i5.jE k r acc).2.failed=true/\((iY.jE k q acc).2.fail=true\/(iY.jE k q acc).1.all kG=false))
 |0,r,q,acc,h,j=> .inl ⟨rfl,h,j,rfl⟩
 |k+1,r,q,acc,h,j=>by
  unfold i5.jE iY.jE;rw [g3 (by rw [h.L5];simp)];rcases h.lR with⟨u,s1,a2⟩|⟨f,g⟩
  ·rw [u]
   have:=p5.jE k r.s5 q.s5 (acc++ [q.lR]) s1 (by rw [Uf,j];simp [a2]);rw [U3,TF]at this;rcases this with⟨y,b2,b3,z⟩|h
   ·exact .inl ⟨y,b2,b3,UN⟩
   ·exact .inr h
  ·right
   refine⟨qD _ _ _ f,?_⟩;rcases g with g|g
   ·exact .inl (tf _ _ _ g)
   ·exact .inr (wy _ _ _ (by rw [Uf];simp [g]))
theorem p5.notes: ∀(k:Nat) (r:i5) (q:iY) (acc:List jZ),p5 r q->acc.all ja=true->
 ((i5.notes k r acc).1=(iY.notes k q acc).1/\p5 (i5.notes k r acc).2 (iY.notes k q acc).2/\(iY.notes k q acc).1.all ja=true/\(iY.notes k q acc).1.length=acc.length+k)\/
 ((i5.notes k r acc).2.failed=true/\((iY.notes k q acc).2.fail=true\/(iY.notes k q acc).1.all ja=false))
 |0,r,q,acc,h,j=> .inl ⟨rfl,h,j,rfl⟩
 |k+1,r,q,acc,h,j=>by
  unfold i5.notes iY.notes;rw [g3 (by rw [h.L5];simp)];rcases h.note with⟨u,s1,a2⟩|⟨f,g⟩
  ·rw [u]
   have:=p5.notes k r.n4 q.n4 (acc++ [q.note]) s1 (by rw [Uf,j];simp [a2]);rw [U3,TF]at this;rcases this with⟨y,b2,b3,z⟩|h
   ·exact .inl ⟨y,b2,b3,UN⟩
   ·exact .inr h
  ·right
   refine⟨py _ _ _ f,?_⟩;rcases g with g|g
   ·exact .inl (qE _ _ _ g)
   ·exact .inr (yw _ _ _ (by rw [Uf];simp [g]))
theorem qq {r:i5}(h:r.failed=true):r.done=false:=by unfold i5.done;rw [h];rfl
theorem Bz (bs:List Int)(al: ∀d∈bs,0<=d/\d<256):iS bs=nt bs:=by
 have ak:p5 ⟨bs,0,false⟩ ⟨bs,false⟩:=⟨rfl,rfl,iy _,rfl,al⟩;unfold iS nt
 have ag: ∀(x:List iR×i5) (y:List iR×iY),x.2.failed=true->(y.2.fail=true\/y.1.all kG=false)->
  (match y with
    |(ins,r)=>match iY.notes (r.int 4).1.toNat (r.int 4).2 []with
       |(outs,j)=>if (j.uint 18446744073709551615).2.fail=true\/(j.uint 18446744073709551615).2.b.length>0\/lw ⟨ins,outs,(j.uint 18446744073709551615).1⟩=false then none else some (⟨ins,outs,(j.uint 18446744073709551615).1⟩:po))=
  (match x with
    |(ins,r)=>match i5.notes (r.int 4).1.toNat (r.int 4).2 []with
       |(outs,j)=>if (j.uint 18446744069414584320).2.done=true then some (⟨ins,outs,(j.uint 18446744069414584320).1⟩:po)else none):=by
  rintro⟨ins,r⟩ ⟨ao,q⟩ hr u;simp only at hr u⊢;refine(g7 ?_).trans (g3 (by rw [qq (jU (py _ _ _ (kj hr _)) _)];simp)).symm;rcases u with u|u
  ·exact .inl (kW (qE _ _ _ (kE u _)) _)
  ·refine .inr (.inr ?_)
   simp only [lw,u,kH,ll]
 rcases ak.Ke 4 with⟨ah,s1,a2,ai⟩|⟨f,g⟩
 ·rw [ah]at a2 ai⊢
  rcases p5.jE (iY.int ⟨bs,false⟩ 4).1.toNat _ _ [] s1 rfl with⟨G,s2,b2,b3⟩|⟨f,g⟩
  ·revert G s2 b2 b3
   generalize i5.jE _ _ _=x;generalize iY.jE _ _ _=y;obtain⟨ins,r⟩:=x;obtain⟨ao,q⟩:=y;intro G s2 b2 b3;simp only at G s2 b2 b3⊢;subst G;rcases s2.Ke 4 with⟨c1,s3,c2,aj⟩|⟨f,g⟩
   ·rw [c1]at c2 aj⊢
    rcases p5.notes (q.int 4).1.toNat _ _ [] s3 rfl with⟨d1,s4,K,U⟩|⟨f,g⟩
    ·revert d1 s4 K U
     generalize i5.notes _ _ _=x;generalize iY.notes _ _ _=y;obtain⟨outs,j⟩:=x;obtain⟨af,z⟩:=y;intro d1 s4 K U;simp only at d1 s4 K U⊢;subst d1;rcases s4.uint 18446744069414584320 18446744073709551615 UN (.inl UN)with⟨ae,s5,ap,aq⟩|⟨f,g⟩
     ·have hr:lw ⟨ins,outs,(z.uint 18446744073709551615).1⟩=true:=by
       simp only [lw,b2,K,jC,Bool.and_true];rw [<-ae,kg,jk,jk];simp at b3 U;omega
      have ab:(j.uint 18446744069414584320).2.done=decide ((z.uint 18446744073709551615).2.b.length=0):=by
       unfold i5.done;rw [s5.OL,s5.same,Ts,oK];have:=s5.pos;simp;omega
      rw [s5.L5,hr,ab,ae];by_cases ad:(z.uint 18446744073709551615).2.b.length=0
      ·rw [g3 (by simp [ad]),g7 (iP ad)]
      ·rw [g7 (.inr (.inl UN)),g3 (by simp [ad])]
     ·refine(g7 ?_).trans (g3 (by rw [qq f];simp)).symm
      rcases g with g|g
      ·exact .inl g
      ·refine .inr (.inr ?_)
       have ab:jC (z.uint 18446744073709551615).1=false:=iH UN;simp only [lw,ab,kH,ll]
    ·revert f g
     generalize i5.notes _ _ _=x;generalize iY.notes _ _ _=y;obtain⟨outs,j⟩:=x;obtain⟨af,z⟩:=y;intro f g;simp only at f g⊢;refine(g7 ?_).trans (g3 (by rw [qq (jU f _)];simp)).symm;rcases g with g|g
     ·exact .inl (kW g _)
     ·exact .inr (.inr (by simp only [lw,g,ll]))
   ·have V:=py (r.int 4).1.toNat _ [] f
    have Y:=qE (q.int 4).1.toNat _ [] g
    revert V Y
    generalize i5.notes _ _ _=x;generalize iY.notes _ _ _=y;obtain⟨outs,j⟩:=x;obtain⟨af,z⟩:=y;intro V Y;simp only at V Y⊢;exact(g7 (.inl (kW Y _))).trans (g3 (by rw [qq (jU V _)];simp)).symm
  ·exact ag _ _ f g
 ·exact ag _ _ (qD _ _ _ f) (.inl (tf _ _ _ g))
open Tryz Go.ChangeShapes Go.WideShapes Go.ChangeAt Go.RowKit Go.Sort
theorem g4.takeN {α:Type}{r:kS α}{S:UO}{w:World}{a:UP}{len cap:Nat}{xs:List α}(h:(g4 r).rel S w [.slice a len cap] xs)(n:Nat)(V:n<=xs.length):(g4 r).rel S w [.slice a n cap] (xs.take n):=by
 obtain⟨K,Y,U,u,h1,h2,y,z,G⟩:=h;simp at u;obtain⟨rfl,rfl,rfl⟩:=u;refine⟨_,n,_,rfl,by simp;omega,UN,y,z,λi x j=> ?_⟩;have hi:i<n:=by
  have:=(TI.1 j).1;simp at this;omega
 rw [T9,g7 hi]at j;exact G i x j
theorem g4.FQ {α:Type}{r:kS α}{S:UO}{w:World}{b off len cap:Nat}{xs:List α}(h:(g4 r).rel S w [.slice (some ⟨b,off,none⟩) len cap] xs)(n:Nat)(ae:n<=xs.length):(g4 r).rel S w [.slice (some ⟨b,off+n*r.n,none⟩) (len-n) (cap-n)] (xs.drop n):=by
 obtain⟨U,af,Y,u,h1,h2,ab,ad,z⟩:=h;simp at u;obtain⟨rfl,rfl,rfl⟩:=u;refine⟨_,_,_,rfl,by simp;omega,UN,UN,(λh=>by cases h),λi x y=> ?_⟩;rw [List.getElem?_drop]at y;obtain⟨V,ag,es,j,G,hr,K,hlt⟩:=z (n+i) x y;simp at j;obtain⟨rfl,rfl⟩:=j;refine⟨_,_,es,rfl,G,hr,?_,hlt⟩;rw [show off+n*r.n+i*r.n=off+(n+i)*r.n by rw [Nat.add_mul];omega];exact K
theorem pU {S:UO}{w:World}{a:UP}{len cap:Nat}{l:List Int}(h:hD.rel S w [.slice a len cap] l): ∀x∈l,0<=x/\x<256:=by
 intro x u;obtain⟨k,j,rfl⟩:=TH u;obtain⟨b,off, -, -, -,h1,h2, -⟩:=bytes_at h k j;exact⟨h1,h2⟩
theorem tU: ∀k:Fin 9,((k.val<=4->(256:Int)^k.val<=4294967296)/\(256:Int)^k.val<=18446744073709551616)/\(k.val<=7->(256:Int)^k.val<=72057594037927936):=by decide+kernel
theorem Ju (l:List Int)(j:Nat)(h:j<l.length):nh (l.drop j)=l[j]+256*nh (l.drop (j+1)):=by rw [TU h];rfl
theorem t2 (S:UO)(w:World)(a:UP)(cap:Nat)(l:List Int)(h:hD.rel S w [.slice a l.length cap] l)(aj:l.length<=8):
 Calls prog 202 #[.slice a l.length cap] w λe w'=>e= .returned (U2 (nh l))/\w=w':=by
 obtain⟨H,G⟩:=ik h (pU h);clear h;go_in;go_wp2_with fail;go_loop [3,4] (λab u=> ∃k:Nat,k<=l.length/\u= UZ ((k:Int)-1)/\ab= U2 (nh (l.drop k))) (λ_ u=>(intOf u+1).toNat)
 case atStart=>exact⟨l.length,g9 _,by go_num,by rw [UD];rfl⟩
 case round=>
  obtain⟨k,ai,rfl,rfl⟩:=hrel;by_cases Y:k=0
  ·subst Y
   go_wp2;go_ret;exact⟨rfl,rfl⟩
  ·obtain⟨j,rfl⟩: ∃j,k=j+1:=⟨k-1,UN⟩
   obtain⟨b,off,rfl,ag, -,ao,n1,ah⟩:=bytes_at H.o j UN;have K:=Hd (Ju l j UN);have y:=qx (l.drop (j+1)) λd V=>G.o d (TQ V);have z:=(tU ⟨(l.drop (j+1)).length,by simp;omega⟩).2 (by simp;omega);simp only at z;have v0:=y.1;have v1:nh (l.drop (j+1))<72057594037927936:=UN;clear y z;generalize l[j]' UN=x at*
   generalize nh (l.drop (j+1))=m at*
   have ak:(0:Int)<=(j:Int):=UN;have al:(j:Int)<(l.length:Int):=UN;have U:((j+1:Nat):Int)-1=(j:Int):=UN;have ad:IntKind.u64.wrap (m*256)=m*256:=(by rw [jP];omega);have ae:IntKind.u64.wrap (m*256+x)=m*256+x:=(by rw [jP];omega);have af:IntKind.u64.wrap x=x:=(by rw [jP];omega);rw [U];go_wp2_with fail;go_round
   case rel=>exact⟨j,UN,by go_num,by rw [K.o];congr 1;omega⟩
   case measure=>simp [intOf]
def qa (p:Nat)(w:World)(r:iY):Prop:=
 ∃a cap,w.heap[p]? =some (.cells #[.slice a r.b.length cap,r.fail] 282 (0,0))/\hD.rel (λk=>k<p) w [.slice a r.b.length cap] r.b/\r.b.length<=1000000
theorem qa.keep {p:Nat}{w w':World}{r:iY}(h:qa p w r)(j:BW w w'):qa p w' r:=by
 obtain⟨a,cap,h1,h2,u⟩:=h;exact⟨a,cap,b' j h1,hD.c' h2 j,u⟩
theorem qa.kept {p:Nat}{w w':World}{r:iY}(h:qa p w r)(j:Kept (λk=>k<=p) w w'):qa p w' r:=by
 obtain⟨a,cap,h1,h2,u⟩:=h;exact⟨a,cap,hE j h1 (g9 _),hD.keep h2 (j.mono λk _ h=>Nat.le_of_lt h),u⟩
theorem qa.lt {p:Nat}{w:World}{r:iY}(h:qa p w r):p<w.heap.size:=by
 obtain⟨a,cap,h1, -⟩:=h;exact ii h1
def p' (p:Nat)(w:World)(r:iY)(w':World):Prop:=qa p w' r/\Kept (λk=>k≠p) w w'
theorem p'.next {p:Nat}{w w1 w2:World}{r j:iY}(h:p' p w r w1)(k:p' p w1 j w2):p' p w j w2:=⟨k.1,lu h.2 k.2⟩
theorem qa.refl {p:Nat}{w:World}{r:iY}(h:qa p w r):p' p w r w:=⟨h,Kept.refl _ _⟩
theorem p'.bad {p:Nat}{w w1:World}{r:iY}(h:p' p w r w1):p' p w r.bad (w1.setCell ⟨p,1,none⟩ (.bool true)):=by
 obtain⟨⟨a,cap,h1,h2,j⟩,u⟩:=h;refine⟨⟨a,cap,h6 h1,hD.keep h2 ((Kept.refl _ _).setCell (λ_ h=>by have y:p<p:=h;omega) _),j⟩,u.setCell (λ_ h=>h rfl) _⟩
theorem qa.cut {p:Nat}{w:World}{r:iY}{b off cap:Nat}(h1:w.heap[p]? =some (.cells #[.slice (some ⟨b,off,none⟩) r.b.length cap,r.fail] 282 (0,0)))(h2:hD.rel (λk=>k<p) w [.slice (some ⟨b,off,none⟩) r.b.length cap] r.b)(V:r.b.length<=1000000)(K:r.fail=false)(n:Nat)(z:n<=r.b.length):
 p' p w ⟨r.b.drop n,false⟩ (w.setCell ⟨p,0,none⟩ (.slice (some ⟨b,off+n,none⟩) (r.b.length-n) (cap-n)))/\hD.rel (λk=>k<p) (w.setCell ⟨p,0,none⟩ (.slice (some ⟨b,off+n,none⟩) (r.b.length-n) (cap-n))) [.slice (some ⟨b,off,none⟩) n cap] (r.b.take n):=by
 have y:Kept (λk=>k<p) w (w.setCell ⟨p,0,none⟩ (.slice (some ⟨b,off+n,none⟩) (r.b.length-n) (cap-n))):=(Kept.refl _ _).setCell (λ_ h=>by have U:p<p:=h;omega) _;have u:=g4.FQ h2 n z;have G:(j9 .u8).n=1:=rfl;rw [G,qP]at u;have j:(r.b.drop n).length=r.b.length-n:=US
 refine⟨⟨⟨some ⟨b,off+n,none⟩,cap-n,?_,?_,?_⟩,(Kept.refl _ _).setCell (λ_ h=>h rfl) _⟩,hD.keep (g4.takeN h2 n z) y⟩
 ·have:=h6 (i:=0) (v:= .slice (some ⟨b,off+n,none⟩) (r.b.length-n) (cap-n)) h1
  rw [K]at this;rw [j];exact this
 ·rw [j];exact hD.keep u y
 ·rw [j];omega
theorem qa.Qo {p:Nat}{w:World}{r:iY}{b off n:Nat}(h1:w.heap[p]? =some (.cells #[.slice (some ⟨b,off,none⟩) r.b.length n,r.fail] 282 (0,0)))(h2:hD.rel (λk=>k<p) w [.slice (some ⟨b,off,none⟩) r.b.length n] r.b)(y:r.fail=false)(G:n<=r.b.length):
 p' p w ⟨r.b.drop n,false⟩ (w.setCell ⟨p,0,none⟩ (.slice (some ⟨b,off,none⟩) 0 0))/\hD.rel (λk=>k<p) (w.setCell ⟨p,0,none⟩ (.slice (some ⟨b,off,none⟩) 0 0)) [.slice (some ⟨b,off,none⟩) n n] (r.b.take n):=by
 have z:Kept (λk=>k<p) w (w.setCell ⟨p,0,none⟩ (.slice (some ⟨b,off,none⟩) 0 0)):=(Kept.refl _ _).setCell (λ_ h=>by have K:p<p:=h;omega) _;have U:=(g4.lens h2).2.1;have j:(r.b.drop n).length=0:=by simp;omega
 refine⟨⟨⟨some ⟨b,off,none⟩,0,?_,?_,?_⟩,(Kept.refl _ _).setCell (λ_ h=>h rfl) _⟩,hD.keep (g4.takeN h2 n G) z⟩
 ·have:=h6 (i:=0) (v:= .slice (some ⟨b,off,none⟩) 0 0) h1
  rw [y]at this;rw [j];exact this
 ·refine⟨_,_,_,rfl,rfl,by show(r.b.drop n).length<=0;omega,by unfold maxLen;omega,(λh=>by cases h),λi x u=> ?_⟩
  rw [T5 j]at u
  cases u
 ·show(r.b.drop n).length<=_;omega
theorem take_len (r:iY)(n:Nat):(r.take n).1.length<=n:=by
 unfold iY.take;split
 ·exact iy _
 ·simp;omega
theorem vy (w:World)(p:Nat)(r:iY)(h:qa p w r)(n:Nat)(ak:0<n)(al:n<=8):
 Calls prog 271 #[.pointer (some ⟨p,0,none⟩),UZ n] w λe w'=> ∃a cap,e= .returned (.slice a (r.take n).1.length cap)/\hD.rel (λk=>k<p) w' [.slice a (r.take n).1.length cap] (r.take n).1/\p' p w (r.take n).2 w':=by
 have z:=Hd h;obtain⟨a,cap,h1,h2,V⟩:=h;obtain⟨ae,af,U,ag⟩:=g4.lens h2;unfold maxLen at U;obtain⟨K,ao⟩:=a' h1
 cases y:r.fail with
 |true=>
  have u:Hi (r.take n=([],r.bad)):=Hd (by unfold iY.take;rw [g7 (.inl y)]);rw [y]at K;have j:=Hd z.o.refl.bad;clear h1 h2;go_wp2;go_ret;rw [u.o];exact⟨none,0,rfl,g4.nil,j.o⟩
 |false=>
  rw [y]at K;by_cases ab:r.b.length<n
  ·have u:Hi (r.take n=([],r.bad)):=by show _=_;unfold iY.take;rw [g7 (.inr ab)]
   have j:=Hd z.o.refl.bad;have ad:(r.b.length:Int)<(n:Int):=UN;clear h1 h2;go_wp2;go_ret;rw [u.o];exact⟨none,0,rfl,g4.nil,j.o⟩
  ·have u:Hi (r.take n=(r.b.take n,⟨r.b.drop n,false⟩)):=by show _=_;unfold iY.take;rw [g3 (by rw [y];simp;omega)]
   obtain⟨b,off,rfl, -, -, -, -, -⟩:=bytes_at h2 0 UN;have G:Hi ((r.b.take n).length=n):=Hd (by simp;omega);have ad: ¬(r.b.length:Int)<(n:Int):=UN;have aj:(n:Int)<=(r.b.length:Int):=UN;have ai:(n:Int)<=(cap:Int):=UN;have ah:(0:Int)<=(n:Int):=UN;by_cases Y:cap=n
   ·subst Y
    have j:=Hd (qa.Qo h1 h2 y UN);clear h1 h2;go_wp2;go_ret;rw [u.o,G.o];exact⟨_,_,rfl,j.o.2,j.o.1⟩
   ·have j:=Hd (qa.cut h1 h2 V y n UN)
    clear h1 h2;go_wp2;go_ret;rw [u.o,G.o];exact⟨_,_,rfl,j.o.2,j.o.1⟩
theorem ms (w:World)(p:Nat)(r:iY)(h:qa p w r)(most:Int)(Y:0<=most):
 Calls prog 191 #[.pointer (some ⟨p,0,none⟩),most] w λe w'=>e= .returned (U2 (r.uint most).1)/\p' p w (r.uint most).2 w'/\0<=(r.uint most).1/\(r.uint most).1<=most:=by
 have G:Hi (r.uint most=if (r.take 8).2.fail=true\/most<nh (r.take 8).1 then (0,(r.take 8).2.bad)else (nh (r.take 8).1,(r.take 8).2)):=rfl;have ai:=take_len r 8;go_in;go_wp2_with fail;refine(vy w p r h 8 UN UN).mono ?_;rintro e w1⟨a,cap,rfl,K,ht⟩;have V:=qx (r.take 8).1 (pU K);have U:=tU ⟨(r.take 8).1.length,UN⟩;simp only at U;obtain⟨ad,u⟩:=ik K ht;clear K ht h;generalize r.take 8=t at*
 have aj:nh t.1<18446744073709551616:=by have:=U.1.2;omega
 have af:=V.1;clear V U;go_wp2_with fail;refine(t2 _ w1 a cap t.1 ad.o UN).mono ?_;rintro e w2⟨rfl,rfl⟩;generalize nh t.1=n at*;obtain⟨ah,c1,q1,q2,ag⟩:=u.o.1;obtain⟨ab,ak⟩:=a' q1;clear q1 q2 ag
 cases y:t.2.fail with
 |true=>
  have j:Hi (r.uint most=(0,t.2.bad)):=Hd (by rw [G.o,g7 (.inl y)]);have z:=Hd (u.o.bad);rw [y]at ab;go_wp2;go_ret;rw [j.o];exact⟨rfl,z.o,US,Y⟩
 |false=>
  rw [y]at ab;by_cases ae:most<n
  ·have j:Hi (r.uint most=(0,t.2.bad)):=by show _=_;rw [G.o,g7 (.inr ae)]
   have z:=Hd (u.o.bad);go_wp2;go_ret;rw [j.o];exact⟨rfl,z.o,US,Y⟩
  ·have j:Hi (r.uint most=(n,t.2)):=by show _=_;rw [G.o,g3 (by rw [y];simp;omega)]
   go_wp2;go_ret;rw [j.o];exact⟨rfl,u.o,af,by show n<=most;omega⟩
theorem ox (w:World)(p:Nat)(r:iY)(h:qa p w r)(most:Int)(Y:0<=most):
 Calls prog 189 #[.pointer (some ⟨p,0,none⟩),UZ most] w λe w'=>e= .returned (UZ (r.int most).1)/\p' p w (r.int most).2 w'/\0<=(r.int most).1/\(r.int most).1<=most:=by
 have G:Hi (r.int most=if (r.take 4).2.fail=true\/most<nh (r.take 4).1 then (0,(r.take 4).2.bad)else (nh (r.take 4).1,(r.take 4).2)):=rfl;have ai:=take_len r 4;go_in;go_wp2_with fail;refine(vy w p r h 4 UN UN).mono ?_;rintro e w1⟨a,cap,rfl,K,ht⟩;have V:=qx (r.take 4).1 (pU K);have U:=tU ⟨(r.take 4).1.length,UN⟩;simp only at U;obtain⟨ad,u⟩:=ik K ht;clear K ht h;generalize r.take 4=t at*
 have aj:nh t.1<4294967296:=by have:=U.1.1 UN;omega
 have af:=V.1;clear V U;go_wp2_with fail;refine(t2 _ w1 a cap t.1 ad.o UN).mono ?_;rintro e w2⟨rfl,rfl⟩;have hw:IntKind.i64.wrap (nh t.1)=nh t.1:=by rw [rX];omega
 generalize nh t.1=n at*;obtain⟨ah,c1,q1,q2,ag⟩:=u.o.1;obtain⟨ab,ak⟩:=a' q1;clear q1 q2 ag
 cases y:t.2.fail with
 |true=>
  have j:Hi (r.int most=(0,t.2.bad)):=Hd (by rw [G.o,g7 (.inl y)]);have z:=Hd (u.o.bad);rw [y]at ab;go_wp2;go_ret;rw [j.o];exact⟨rfl,z.o,US,Y⟩
 |false=>
  rw [y]at ab;by_cases ae:most<n
  ·have j:Hi (r.int most=(0,t.2.bad)):=by show _=_;rw [G.o,g7 (.inr ae)]
   have z:=Hd (u.o.bad);go_wp2;go_ret;rw [j.o];exact⟨rfl,z.o,US,Y⟩
  ·have j:Hi (r.int most=(n,t.2)):=by show _=_;rw [G.o,g3 (by rw [y];simp;omega)]
   go_wp2;go_ret;rw [j.o];exact⟨rfl,u.o,af,by show n<=most;omega⟩
theorem EJ (w:World)(p:Nat)(r:iY)(h:qa p w r)(most:Int)(aN:0<=most)(m1:most<=1000):
 Calls prog 192 #[.pointer (some ⟨p,0,none⟩),UZ most,U2 18446744069414584321] w λe w'=> ∃a cap,e= .returned (.slice a (r.list most 18446744069414584321).1.length cap)/\gZ.rel (λk=>w.heap.size<=k) w' [.slice a (r.list most 18446744069414584321).1.length cap] (r.list most 18446744069414584321).1/\p' p w (r.list most 18446744069414584321).2 w':=by
 have K:Hi (r.list most 18446744069414584321=if (r.int most).2.fail=true\/((r.int most).2.b.length:Int) / 8<(r.int most).1 then ([],(r.int most).2.bad)else iY.many 18446744069414584321 (r.int most).1.toNat (r.int most).2 []):=rfl;have aX:=h.lt;go_in;go_wp2_with fail;refine(ox w p r h most aN).mono ?_;rintro e w1⟨rfl,h1,aw,n1⟩;have Y:=Hd h1;obtain⟨N,al⟩:=lv aw;rw [al]at n1 K⊢;generalize (r.int most).2=t at*;clear h1 al aw h;obtain⟨aP,c1,q1,q2,aY⟩:=Y.o.1;obtain⟨ad,ay⟩:=a' q1;clear q1 q2
 cases ab:t.fail with
 |true=>
  have y:Hi (r.list most 18446744069414584321=([],t.bad)):=Hd (by rw [K.o,g7 (.inl ab)]);have z:=Hd (Y.o.bad);rw [ab]at ad;go_wp2;go_ret;rw [y.o];exact⟨none,0,rfl,g4.nil,z.o⟩
 |false=>
  rw [ab]at ad;by_cases aI:(t.b.length:Int) / 8<(N:Int)
  ·have y:Hi (r.list most 18446744069414584321=([],t.bad)):=by show _=_;rw [K.o,g7 (.inr aI)]
   have z:=Hd (Y.o.bad);go_wp2;go_ret;rw [y.o];exact⟨none,0,rfl,g4.nil,z.o⟩
  ·have y:Hi (r.list most 18446744069414584321=iY.many 18446744069414584321 N t []):=by show _=_;rw [K.o,g3 (by rw [ab];simp;omega),jJ]
   clear K;go_wp2_with fail;clear ad ay;go_loopw [8,9] (λaO aj wr=> ∃(k:Nat) (q:iY) (acc:List Int),k<=N/\aj= UZ k/\acc.length=k/\p' p w q wr/\Own ib w.heap.size 24 (λx=>False\/w.heap.size<=x) wr aO acc/\Hi (iY.many 18446744069414584321 (N-k) q acc=iY.many 18446744069414584321 N t [])) (λ_ aj _=>N-(intOf aj).toNat)
   case atStart=>exact⟨0,t,[],iy _,rfl,rfl,Y.o,Own.nil _ _ _ _ _,rfl⟩
   case round=>
    obtain⟨k,q,acc,aT,rfl,aQ,av,ar,U⟩:=hrel;obtain⟨af,V⟩:=ik av ar;clear av ar;by_cases aV:k<N
    ·obtain⟨j,ap⟩: ∃j,N-k=j+1:=⟨N-k-1,UN⟩
     have aH:Hi (N-(k+1)=j):=Hd UN;rw [ap]at U;clear ap;have aU:(k:Int)<(N:Int):=UN;have ak:Hi ((if (18446744069414584321:Int)<=nh (q.take 8).1 then ([],(q.take 8).2.bad)else iY.many 18446744069414584321 j (q.take 8).2 (acc++ [nh (q.take 8).1]))=iY.many 18446744069414584321 N t []):=U;clear U;have aW:=take_len q 8;go_wp2_with fail;refine(vy wr p q af.o.1 8 UN UN).mono ?_;rintro e w2⟨a,cap,rfl,ag,ht⟩;have ao:=qx (q.take 8).1 (pU ag);have ai:=tU ⟨(q.take 8).1.length,UN⟩;simp only at ai;obtain⟨az,G⟩:=ik ag (af.o.next ht);have aC:=Hd (V.o.keep (ht.2.mono λk _ h=>by rcases h with h|h;exact h.elim;omega))
     clear ag ht;generalize q.take 8=u at*
     have aL:nh u.1<18446744073709551616:=(by have:=ai.1.2;omega);have aK:=ao.1;clear ao ai;go_wp2_with fail;refine(t2 _ w2 a cap u.1 az.o UN).mono ?_;rintro e aZ⟨rfl,rfl⟩;generalize nh u.1=n at*
     by_cases au:(18446744069414584321:Int)<=n
     ·have ae:Hi (r.list most 18446744069414584321=([],u.2.bad)):=by show _=_;rw [y.o,<-ak.o,g7 au]
      have z:=Hd (G.o.bad);obtain⟨a2,c2,q1, -, -⟩:=G.o.1;obtain⟨ad,ay⟩:=a' q1;clear q1;go_wp2;go_ret;rw [ae.o];exact⟨none,0,rfl,g4.nil,z.o⟩
     ·have aA:Hi (iY.many 18446744069414584321 j u.2 (acc++ [n])=iY.many 18446744069414584321 N t []):=by show _=_;rw [<-ak.o,g3 au]
      have aG:Hi (ib.rel (λ_=>False) w2 [n] n):=⟨rfl,ir aK aL⟩;have aJ:w.heap.size<=w2.heap.size:=G.o.2.size;go_wp2_with (at_builtin;refine km (r:=ib) (wr:=w2) (es:= [U2 n]) (w0:=w2) (B:=w.heap.size) rfl _ _ rfl iX rfl rfl (g' _ _) aJ aC.o aG.o (λx aM=>aM.elim) (by unfold maxLen;omega) UN ?_)
      intro v2 ax aq hb5;have ah:Kept (λk=>k<w.heap.size) w2 ax:=⟨hb5.os,hb5.tape,hb5.output,hb5.size,λi _ hi=>hb5.block i hi⟩;have aF:Hi (p' p w u.2 ax):=⟨G.o.1.kept (ah.mono λk _ h=>UN),G.o.2.trans ah λi hi _=>hi⟩;have aD:=Hd (Own.mono aq (F':=λx=>False\/w.heap.size<=x) λx _ h=>by first|exact h|exact .inr h)
      clear aq hb5 ah;go_wp2;go_roundw
      case rel=>exact⟨k+1,u.2,acc++ [n],UN,by go_num,by simp;omega,aF.o,aD.o,by rw [aH.o];exact aA⟩
      case measure=>exact UY
    ·obtain rfl:k=N:=UN
     rw [sp]at U;have ae:Hi (r.list most 18446744069414584321=(acc,q)):=Hd (by rw [y.o,<-U.o];rfl);obtain⟨a2,c2,rfl, -, -⟩:=g4.form V.o.slice;have aE:=Hd (gZ.mono V.o.slice (S':=λk=>w.heap.size<=k) λx _ h=>h.resolve_left id);clear V;go_wp2;go_ret;rw [ae.o];exact⟨a2,c2,rfl,aE.o,af.o⟩
end Go.Proofs.YtjdiofjjoefnhaaGreatDoor
