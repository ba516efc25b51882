/- A small library over the kit: worlds that keep some blocks, representations of data in memory, rows that a call owns. Nothing of the program is named here; no conditions. -/
import Derived.Deep.MidRow
import Derived.Deep.RegionHeld
import Derived.Lib.QuietBelow
import Derived.WalkKit
import Derived.ProofKit
import Derived.OpenShut
import Derived.ChangeOld
import Derived.Below
import Derived.Lib.Hide
import Derived.OwnWalk
import Derived.Deep.AppendLies
import Derived.Maps.AppendAt
import Derived.Deep.Draws
import Derived.Laws.IdiomCopy
import Derived.StillTail
import Derived.Laws.CopyOwn
set_option maxRecDepth 100000
namespace Go.Proofs.YtjdiofjjoefnhaaGreatDoor
open Go.ChangeShapes Go.WideShapes Go.ChangeAt Go.RowKit
abbrev g9:=@Nat.le_refl
abbrev ie:=@Calls.regrown_of
abbrev g':=@Below.refl
abbrev iH:=@decide_eq_false
abbrev je:=@beq_eq_false_iff_ne
abbrev iu:=@Nat.le_trans
abbrev jg:=@Nat.lt_of_lt_of_le
abbrev iP:=@decide_eq_true
abbrev g7:=@if_pos
abbrev iy:=@Nat.zero_le
abbrev g3:=@if_neg
abbrev jt:=@bne_eq_false_iff_eq
abbrev jk:=@decide_eq_true_eq
abbrev iQ:=@bodyPost_ret
abbrev iB:=@bne_iff_ne
abbrev jJ:=@Int.toNat_natCast
abbrev jP:=@IntKind.wrap_u64
abbrev lv:=@Int.eq_ofNat_of_zero_le
abbrev jR:=@Option.some.inj
abbrev iO:=@beq_iff_eq
abbrev kg:=@Bool.and_eq_true
abbrev kI:=@wpList_store_row
abbrev kH:=@Bool.false_and
abbrev kf:=@wpList_load_row
abbrev lm:=@below_regrown
abbrev ll:=@Bool.and_false
abbrev kr:=@setRow_heap
abbrev kZ:=@Nat.lt_or_ge
abbrev pg:=@decide_eq_false_iff_not
abbrev mJ:=@Value.slice.injEq
abbrev oK:=@Bool.eq_iff_iff
abbrev qT:=@Nat.add_sub_cancel
abbrev pf:=@Nat.not_lt_zero
abbrev mA:=@wpAnyH_done
abbrev pe:=@yieldsIf_load_mid
abbrev mU:=@of_decide_eq_true
abbrev oi:=@Nat.ne_of_gt
abbrev qS:=@wp_region_held_drew
abbrev pd:=@Option.some.injEq
abbrev nC:=@Nat.zero_add
abbrev pb:=@Nat.lt_succ_self
abbrev rX:=@IntKind.wrap_i64
abbrev rW:=@Nat.sub_lt_sub_left
abbrev uq:=@Nat.pow_le_pow_right
abbrev pK:=@Nat.lt_irrefl
abbrev sr:=@decide_eq_decide
abbrev vX:=@Option.map_eq_some_iff
abbrev o9:=@Nat.le_succ
abbrev sq:=@Nat.min_eq_left
abbrev oJ:=@And.intro
abbrev qR:=@Int.pow_succ
abbrev vW:=@Int.lt_of_le_of_lt
abbrev rV:=@Nat.pow_succ
abbrev qd:=@Addr.mk.injEq
abbrev zT:=@Option.isSome_iff_exists
abbrev sp:=@Nat.sub_self
abbrev sn:=@Int.le_of_lt
abbrev qQ:=@wpAny_take
abbrev Cg:=@Array.getElem?_eq_some_iff
abbrev tC:=@Nat.succ_mul
abbrev nB:=@Ne.symm
abbrev vV:=@AllReadyH.cons
abbrev FH:=@Int.mul_le_mul_of_nonneg_right
abbrev vU:=@Nat.eq_zero_or_pos
abbrev xH:=@run_makeMap
abbrev qP:=@Nat.mul_one
abbrev xG:=@Nat.add_assoc
abbrev xF:=@Nat.lt_of_le_of_lt
abbrev vT:=@Nat.pow_pos
abbrev vS:=@Int.le_refl
abbrev FG:=@Nat.mul_div_cancel_left
abbrev FF:=@Nat.div_div_eq_div_mul
abbrev Cf:=@Int.natCast_ediv
abbrev Ce:=@Nat.mul_le_mul_right
abbrev Cd:=@Nat.div_le_self
abbrev xE:=@Nat.add_zero
abbrev zS:=@Int.pow_zero
abbrev zR:=@Int.mul_emod
abbrev zQ:=@Int.le_trans
abbrev lF:=@Or.inl
abbrev uo:=@Below.size
abbrev Cc:=@Int.mul_nonneg
abbrev Ik:=@Int.tmod_eq_emod_of_nonneg
abbrev Cb:=@Int.mul_assoc
abbrev FE:=@Bool.not_eq_true
abbrev U5:=@List.getD_eq_getElem?_getD
abbrev U3:=@List.length_append
abbrev U4:=@World.size_alloc
abbrev z2:=@List.getElem?_eq_getElem
abbrev z4:=@List.take_succ_eq_append_getElem
abbrev z3:=@List.getElem_mem
abbrev Tr:=@List.take_succ_cons
abbrev Sw:=@List.take_length
abbrev Ty:=@List.drop_succ_cons
abbrev Tw:=@Calls.quiet_of_same
abbrev Tq:=@List.length_take
abbrev Tv:=@World.drewN_drewN
abbrev TD:=@List.mem_singleton
abbrev TH:=@List.getElem_of_mem
abbrev TC:=@List.length_map
abbrev U6:=@List.take_zero
abbrev Ti:=@List.mem_append
abbrev Tt:=@List.append_assoc
abbrev TF:=@List.length_singleton
abbrev Tg:=@List.drop_zero
abbrev Ts:=@List.length_drop
abbrev TI:=@List.getElem?_eq_some_iff
abbrev Tz:=@List.length_cons
abbrev TN:=@List.getElem?_append_left
abbrev TB:=@List.nil_append
abbrev TK:=@List.take_of_length_le
abbrev TG:=@List.length_set
abbrev TX:=@List.getElem?_append_right
abbrev T5:=@List.eq_nil_of_length_eq_zero
abbrev TW:=@List.getElem_append_right
abbrev TM:=@List.drop_of_length_le
abbrev TE:=@List.mem_cons
abbrev TL:=@World.cell?_of_block
abbrev TJ:=@List.all_eq_true
abbrev TA:=@List.getElem?_eq_none
abbrev TV:=@List.mem_of_mem_take
abbrev TU:=@List.drop_eq_getElem_cons
abbrev Ub:=@World.size_setCell
abbrev TS:=@List.pairwise_cons
abbrev TR:=@List.getElem?_set
abbrev Tp:=@List.take_append_drop
abbrev TT:=@List.getElem_append_left
abbrev Ua:=@List.append_inj
abbrev Uh:=@cell?_setCell_some
abbrev TQ:=@List.mem_of_mem_drop
abbrev T4:=@List.flatten_cons
abbrev T':=@List.Pairwise.nil
abbrev T2:=@List.append_nil
abbrev T1:=@World.cell?_setCell_other
abbrev TP:=@List.pairwise_iff_getElem
abbrev Un:=@List.find?_cons
abbrev Um:=@List.ext_getElem
abbrev T0:=@List.map_append
abbrev Ug:=@List.getElem_drop
abbrev T9:=@List.getElem?_take
abbrev TO:=@trodAll_cons_mk
abbrev Uf:=@List.all_append
abbrev T8:=@Array.getElem?_modify
abbrev TY:=@results_none
abbrev Ul:=@List.getElem_map
abbrev UG:=@List.map_cons
abbrev Ue:=@World.cell?_setCell_same
abbrev Ut:=@trodAll_cons
abbrev T7:=@List.take_take
abbrev Uk:=@List.getElem_take
abbrev Us:=@List.foldl_append
abbrev Ud:=@Array.mem_of_getElem?
abbrev UA:=@List.any_eq_true
abbrev UF:=@List.pairwise_append
abbrev Uc:=@List.mem_of_getElem?
abbrev Uj:=@List.mem_cons_of_mem
abbrev Ur:=@returnsInHanded_of_change_and
abbrev Uq:=@List.take_append_of_le_length
abbrev UH:=@List.take_left'
abbrev Up:=@List.dropLast_concat_getLast
abbrev Uz:=@List.getLast?_eq_getElem?
abbrev Uy:=@size_setRow
abbrev Ux:=@true_and
abbrev UE:=@Nat.le_add_right
abbrev Uo:=@List.take_append
abbrev UD:=@List.drop_length
abbrev UC:=@World.cell?_setCell_far
abbrev UZ(x:Int):Value:=.int .i64 x
abbrev U2(x:Int):Value:=.int .u64 x
abbrev UP:=Option Addr
abbrev UO:=Nat->Prop
abbrev S0:Value:=.slice none 0 0
abbrev I0:Value:=.int .i64 0
abbrev U0:Value:=.int .u64 0
instance:Coe Int Value:=⟨.int .u64⟩
instance:Coe Nat Value:=⟨λn=>.int .i64 n⟩
instance:Coe Bool Value:=⟨.bool⟩
def Hi(p:Prop):Prop:=p
theorem Hi.o{p:Prop}(h:Hi p):p:=h
theorem Hd{p:Prop}(h:p):Hi p:=h
theorem UN{p:Prop}(h:p:=by omega):p:=h
theorem UT{p:Prop}(h:p:=by as_aux_lemma => kernel_rfl):p:=h
theorem UQ{p:Prop}(h:p:=by kernel_rfl):p:=h
theorem US{p:Prop}(h:p:=by simp):p:=h
theorem UY{p:Prop}(h:p:=by simp [intOf]; omega):p:=h
theorem UR{P:Program}{f:FuncId}{a:Array Value}{w:World}{v:Value}{R:World->Prop}{Q:Ending->World->Prop}(h:Calls P f a w λe w'=>e=.returned v/\R w')(k:∀ w',R w'->Q (.returned v) w'):Calls P f a w Q:=h.mono λe w'⟨x,y⟩=>by subst x;exact k w' y
theorem ik{a b:Prop}(j:a)(u:b):Hi a/\Hi b:=⟨j,u⟩
theorem kT{a b c:Prop}(j:a)(u:b)(y:c):Hi a/\Hi b/\Hi c:=⟨j,u,y⟩
theorem oX{a b c d:Prop}(j:a)(u:b)(y:c)(z:d):Hi a/\Hi b/\Hi c/\Hi d:=⟨j,u,y,z⟩
theorem zL{a b c d e:Prop}(j:a)(u:b)(y:c)(z:d)(G:e):Hi a/\Hi b/\Hi c/\Hi d/\Hi e:=⟨j,u,y,z,G⟩
theorem J1{a b c d e f:Prop}(j:a)(u:b)(y:c)(z:d)(G:e)(K:f):Hi a/\Hi b/\Hi c/\Hi d/\Hi e/\Hi f:=⟨j,u,y,z,G,K⟩
theorem OT{a b c d e f g:Prop}(j:a)(u:b)(y:c)(z:d)(G:e)(K:f)(U:g):Hi a/\Hi b/\Hi c/\Hi d/\Hi e/\Hi f/\Hi g:=⟨j,u,y,z,G,K,U⟩
theorem Mb{a b c d e f g h:Prop}(j:a)(u:b)(y:c)(z:d)(G:e)(K:f)(U:g)(hh:h):Hi a/\Hi b/\Hi c/\Hi d/\Hi e/\Hi f/\Hi g/\Hi h:=⟨j,u,y,z,G,K,U,hh⟩
abbrev pn:Array Value:= #[.bool false,U0,I0,S0,S0,S0,I0,I0,I0,I0,I0,U0,I0,I0,U0,S0,I0,I0]
abbrev mo:Array Value:= #[I0,I0,I0,I0,I0,U0,I0,I0,U0,I0,S0,S0,S0,U0,S0]
abbrev qs (md:Int)(j:Int)(bl:Int)(bu:Int)(qu:Int)(iz:Int)(win:Int)(fin:Int)(u:Int):Array Value:= #[.int .i64 md,.int .i64 j,.int .i64 bl,.int .i64 bu,.int .i64 qu,.int .u64 iz,.int .i64 win,.int .i64 fin,.int .u64 u]
abbrev ri:Array Value:= #[.bool false,U0,I0,S0,S0,S0]
abbrev UX:List Value:= [.bool false,U0,I0,S0,S0,S0]
theorem g8 {a b:Bool}(h:a=b):Ending.returned (.bool a)= .returned (.bool b):=by rw [h]
theorem g2 {k:IntKind}{a b:Int}(h:a=b):Ending.returned (.int k a)= .returned (.int k b):=by rw [h]
theorem d' {a b c:World}(h1:Below a.heap.size a b)(h2:Below b.heap.size b c):Below a.heap.size a c:=h1.trans (h2.mono h1.size)
theorem hd {a b:World}(h:Below a.heap.size a b)(o:Obj):Below a.heap.size a (b.alloc o):=h.alloc h.size o
abbrev BW (w w':World):Prop:=Below w.heap.size w w'
theorem Br (w:World):Below w.heap.size w w:=g' _ _
theorem jc (w:World)(o:Obj):Below w.heap.size w (w.alloc o):=hd (g' _ _) o
abbrev Rt (w:World)(v:Value)(e:Ending)(w':World):Prop:=e= .returned v/\Below w.heap.size w w'
theorem iF {α:Sort _}(a:α): ∃x,a=x:=⟨_,rfl⟩
theorem lz {P:Program}{ops:Array Oper}{C:World->Prop}{w:World}{j:Act->World->Prop}{a:Act}(h: ∀wq,Below w.heap.size w wq->j a wq):wpQuiet P ops C (λu=> ∀w',(∃p:Regrown,w'=Go.Sort.grow (redrawn w p.d) p.os)->j u w') [] a:=
 wpQuiet_nil λ_ ⟨⟨d,os⟩,e⟩=>h _ (e▸lm w d os)
theorem m6 {P:Program} {id:Nat} {Q:Exit->Act->World->Prop} {a:Act} {w:World} {l:List Oper}
 (h:wpQuiet P l.toArray (λw'=> ∃p:Regrown,w'=Go.Sort.grow (redrawn w p.d) p.os) (λj=> ∀w',(∃p:Regrown,w'=Go.Sort.grow (redrawn w p.d) p.os)->Q .normal j w') l a) (y:P.follows .mixedOrders=true:=by kernel_rfl) (u:Region.lexB .any l.toArray=true:=by kernel_rfl):(Code.region id l.toArray true).wp P Q a w:=
 wp_region_quiet_below y u h
structure Kept (S:Nat->Prop)(w w':World):Prop where
 os:w'.os=w.os
 tape:w'.tape=w.tape
 output:w'.output=w.output
 size:w.heap.size<=w'.heap.size
 block: ∀k,k<w.heap.size->S k->w'.heap[k]? =w.heap[k]?
theorem Kept.refl (S:Nat->Prop)(w:World):Kept S w w:=⟨rfl,rfl,rfl,g9 _,λ_ _ _=>rfl⟩
theorem Kept.trans {S S':Nat->Prop}{a b c:World}(h:Kept S a b)(k:Kept S' b c)(u: ∀i,i<a.heap.size->S i->S' i):Kept S a c:=
 ⟨k.os.trans h.os,k.tape.trans h.tape,k.output.trans h.output,iu h.size k.size,
  λi hi j=>(k.block i (jg hi h.size) (u i hi j)).trans (h.block i hi j)⟩
theorem Kept.mono {S S':Nat->Prop}{a b:World}(h:Kept S a b)(j: ∀i,i<a.heap.size->S' i->S i):Kept S' a b:=
 ⟨h.os,h.tape,h.output,h.size,λi hi u=>h.block i hi (j i hi u)⟩
theorem Kept.of_below {S:Nat->Prop}{a b:World}(h:Below a.heap.size a b):Kept S a b:=⟨h.os,h.tape,h.output,h.size,λi hi _=>h.block i hi⟩
theorem Kept.below {B:Nat}{a b:World}(h:Kept (λk=>k<B) a b)(j:B<=a.heap.size):Below B a b:=⟨h.os,h.tape,h.output,h.size,λi hi=>h.block i (by omega) hi⟩
theorem Kept.alloc {S:Nat->Prop}{a b:World}(h:Kept S a b)(o:Obj):Kept S a (b.alloc o):=
 h.trans (Kept.of_below (hd (g' _ _) o)) (λ_ _ h=>h)
theorem Kept.drew {S:Nat->Prop}{a b:World}(h:Kept S a b):Kept S a b.drew:=⟨h.os,h.tape,h.output,h.size,h.block⟩
theorem Kept.setCell {S:Nat->Prop}{a b:World}(h:Kept S a b){p:Addr}(y:p.block<a.heap.size-> ¬S p.block)(u:Value):Kept S a (b.setCell p u):=
 ⟨h.os,h.tape,h.output,by simpa [World.setCell]using h.size,λi hi j=>(Below.heap_setCell b p u i (λe=>y (e▸hi) (e▸j))).trans (h.block i hi j)⟩
theorem Kept.grown {S:Nat->Prop}{a b c:World}{row:Option Nat}(h:Kept S a b)(j:b.grownBy c row)(hr: ∀k,row=some k->k<a.heap.size-> ¬S k):Kept S a c:=
 ⟨j.os.trans h.os,j.tape.trans h.tape,j.output.trans h.output,iu h.size j.size,
  λi hi u=>(j.block i (jg hi h.size) (λe=>hr i e.symm hi u)).trans (h.block i hi u)⟩
theorem Kept.Jm {S:Nat->Prop}{b c:World}{row:Option Nat}(j:b.grownBy c row)(hr: ∀k,row=some k-> ¬S k):Kept S b c:=
 (Kept.refl S b).grown j (λk u _=>hr k u)
theorem ko {w:World}{a:Addr}{v:Value}(h:w.cell? a=some v):a.block<w.heap.size:=World.block_lt_of_cell? w a h
theorem Kept.cell {S:Nat->Prop}{a b:World}(h:Kept S a b){p:Addr}{v:Value}(u:S p.block)(j:a.cell? p=some v):b.cell? p=some v:=
 (TL (w:=a) (h.block p.block (ko j) u)).trans j
structure kS (α:Type) where
 n:Nat
 rel:(Nat->Prop)->World->List Value->α->Prop
 len: ∀ {S w cs x},rel S w cs x->cs.length=n
 one: ∀ {S w cs x},rel S w cs x-> ∀c∈cs,c.oneCell'=true
 keep: ∀ {S w w' cs x},rel S w cs x->Kept S w w'->rel S w' cs x
 mono: ∀ {S S' w cs x},rel S w cs x->(∀k,k<w.heap.size->S k->S' k)->rel S' w cs x
def j9 (k:IntKind):kS Int where
 n:=1
 rel _ _ cs x:=cs= [.int k x]/\(Lit.int k x).wf=true
 len h:=by rw [h.1];rfl
 one h:=by rw [h.1];simp [Value.oneCell']
 keep h _:=h
 mono h _:=h
def Io:kS Bool where
 n:=1
 rel _ _ cs x:=cs= [.bool x]
 len h:=by rw [h];rfl
 one h:=by rw [h];simp [Value.oneCell']
 keep h _:=h
 mono h _:=h
def jB {α u:Type}(r:kS α)(s:kS u):kS (α×u) where
 n:=r.n+s.n
 rel S w cs x:= ∃c1 c2,cs=c1++c2/\r.rel S w c1 x.1/\s.rel S w c2 x.2
 len:=by rintro S w cs x ⟨c1,c2,rfl,h1,h2⟩;rw [U3,r.len h1,s.len h2]
 one:=by
  rintro S w cs x ⟨c1,c2,rfl,h1,h2⟩ c y;rcases Ti.1 y with h|h
  ·exact r.one h1 c h
  ·exact s.one h2 c h
 keep:=by rintro S w w' cs x ⟨c1,c2,rfl,h1,h2⟩ j;exact⟨c1,c2,rfl,r.keep h1 j,s.keep h2 j⟩
 mono:=by rintro S S' w cs x ⟨c1,c2,rfl,h1,h2⟩ j;exact⟨c1,c2,rfl,r.mono h1 j,s.mono h2 j⟩
def zj {α j:Type}(f:j->α)(r:kS α):kS j where
 n:=r.n
 rel S w cs x:=r.rel S w cs (f x)
 len h:=r.len h
 one h:=r.one h
 keep h hk:=r.keep h hk
 mono h hk:=r.mono h hk
def jx (w:World)(b o:Nat)(es:List Value):Prop:= ∀j c,es[j]? =some c->w.cell? ⟨b,o+j,none⟩=some c
theorem jx.keep {S:Nat->Prop}{w w':World}{b o:Nat}{es:List Value}(h:jx w b o es)(z:Kept S w w')(u:S b):jx w' b o es:=
 λj c y=>z.cell u (h j c y)
def g4 {α:Type}(r:kS α):kS (List α) where
 n:=1
 rel S w cs xs:= ∃a len cap,cs= [.slice a len cap]/\len=xs.length/\len<=cap/\cap<=maxLen/\(a=none->cap=0)/\
  ∀i x,xs[i]? =some x-> ∃b off es,a=some ⟨b,off,none⟩/\S b/\r.rel S w es x/\jx w b (off+i*r.n) es/\b<w.heap.size
 len:=by rintro S w cs xs ⟨a,len,cap,rfl,_⟩;rfl
 one:=by rintro S w cs xs ⟨a,len,cap,rfl,_⟩ c j;simp at j;subst j;rfl
 keep:=by
  rintro S w w' cs xs ⟨a,len,cap,rfl,h1,h2,z,G,K⟩ u;refine⟨a,len,cap,rfl,h1,h2,z,G,λi x V=> ?_⟩;obtain⟨b,off,es,U,y,hr,j,hlt⟩:=K i x V;exact⟨b,off,es,U,y,r.keep hr u,j.keep u y,jg hlt u.size⟩
 mono:=by
  rintro S S' w cs xs ⟨a,len,cap,rfl,h1,h2,z,G,K⟩ u;refine⟨a,len,cap,rfl,h1,h2,z,G,λi x V=> ?_⟩;obtain⟨b,off,es,U,y,hr,j,hlt⟩:=K i x V;exact⟨b,off,es,U,u b hlt y,r.mono hr u,j,hlt⟩
section
variable {α:Type} (r:kS α) {S:Nat->Prop} {w w':World}
theorem kS.c' {cs:List Value}{x:α}(h:r.rel S w cs x)(j:Below w.heap.size w w'):r.rel S w' cs x:=r.keep h (Kept.of_below j)
theorem kS.bound {cs:List Value}{x:α}(h:r.rel S w cs x):r.rel (λk=>S k/\k<w.heap.size) w cs x:=r.mono h λ_ j u=>⟨u,j⟩
end
theorem g4.form {α:Type}{r:kS α}{S:Nat->Prop}{w:World}{v:Value}{xs:List α}(h:(g4 r).rel S w [v] xs):
 ∃a cap,v= .slice a xs.length cap/\xs.length<=cap/\cap<=maxLen:=by
 obtain⟨a,len,cap,u,rfl,h2,j,y,z⟩:=h;exact⟨a,cap,by simpa using u,h2,j⟩
theorem g4.at {α:Type}{r:kS α}{S:Nat->Prop}{w:World}{a:Option Addr}{len cap:Nat}{xs:List α}(h:(g4 r).rel S w [.slice a len cap] xs)(i:Nat)(hi:i<xs.length):
 ∃b off es,a=some ⟨b,off,none⟩/\S b/\b<w.heap.size/\r.rel S w es xs[i]/\jx w b (off+i*r.n) es:=by
 obtain⟨K,ab,U,j,h1,h2,V,Y,u⟩:=h;simp at j;obtain⟨rfl,rfl,rfl⟩:=j;obtain⟨b,off,es,y,z,hr,G,hlt⟩:=u i xs[i] (by simp [hi]);exact⟨b,off,es,y,z,hlt,hr,G⟩
theorem g4.lens {α:Type}{r:kS α}{S:Nat->Prop}{w:World}{a:Option Addr}{len cap:Nat}{xs:List α}(h:(g4 r).rel S w [.slice a len cap] xs):
 len=xs.length/\len<=cap/\cap<=maxLen/\(a=none->cap=0):=by
 obtain⟨z,U,G,j,h1,h2,u,y,K⟩:=h;simp at j;obtain⟨rfl,rfl,rfl⟩:=j;exact⟨h1,h2,u,y⟩
theorem g4.nil {α:Type}{r:kS α}{S:Nat->Prop}{w:World}:(g4 r).rel S w [S0] []:=
 ⟨none,0,0,rfl,rfl,g9 _,by unfold maxLen;omega,λ_=>rfl,λi x h=>by simp at h⟩
def Own {α:Type}(r:kS α)(base:Nat)(e:TypeId)(F:Nat->Prop)(w:World)(v:Value)(xs:List α):Prop:=
 ∃(S:Nat->Prop) (css:List (List Value)),(∀k,S k->F k/\k<w.heap.size)/\(∀k,v.ownBlock=some k-> ¬S k/\F k)/\
  css.length=xs.length/\(∀(i:Nat) (cs:List Value) (x:α),css[i]? =some cs->xs[i]? =some x->r.rel S w cs x)/\w.ownsRow base e r.n v xs.length css.flatten
theorem Own.nil {α:Type}(r:kS α)(base:Nat)(e:TypeId)(F:Nat->Prop)(w:World):Own r base e F w S0 []:=
 ⟨λ_=>False,[],λ_ h=>h.elim,λk h=>by simp [Value.ownBlock]at h,rfl,λi cs x h=>by simp at h,World.ownsRow_nil w base e r.n⟩
theorem pX {α:Type}{n:Nat}: ∀ {css:List (List α)},(∀cs∈css,cs.length=n)-> ∀(i:Nat) (cs:List α),css[i]? =some cs-> ∀j c,cs[j]? =some c->css.flatten[i*n+j]? =some c
 | [],_,i,cs,h,_,_,_=>by simp at h
 |d::css,y,0,cs,h,j,c,u=>by
  simp at h;subst h;have K:j<d.length:=(TI.1 u).1;simp [TN K,u]
 |d::css,y,i+1,cs,h,j,c,u=>by
  have z:d.length=n:=y d (by simp);have:=pX (css:=css) (λcs G=>y cs (by simp [G])) i cs (by simpa using h) j c u;rw [T4,TX (by rw [z,tC];omega),z,<-this];congr 1;rw [tC];omega
theorem qp {α:Type}{n:Nat}: ∀ {css:List (List α)},(∀cs∈css,cs.length=n)->css.flatten.length=css.length*n
 | [],_=>by simp
 |d::css,j=>by
  rw [T4,U3,qp (css:=css) (λcs u=>j cs (by simp [u])),j d (by simp),Tz,tC];omega
section
variable {α:Type} {r:kS α} {base:Nat} {e:TypeId} {F:Nat->Prop} {w w':World} {v:Value} {xs:List α}
theorem Own.mono {F':Nat->Prop}(h:Own r base e F w v xs)(y: ∀k,k<w.heap.size->F k->F' k):Own r base e F' w v xs:=by
 obtain⟨S,css,u,G,K,hr,z⟩:=h;exact⟨S,css,λk j=>⟨y k (u k j).2 (u k j).1,(u k j).2⟩,λk j=>⟨(G k j).1,y k (z.lt k j).2 (G k j).2⟩,K,hr,z⟩
theorem BI {base:Nat}{e:TypeId}{size n:Nat}{v:Value}{ys:List Value}{S:Nat->Prop}(h:w.ownsRow base e size v n ys)(K:Kept S w w')(U: ∀k,v.ownBlock=some k->S k):w'.ownsRow base e size v n ys:=by
 refine⟨h.1,?_⟩;rcases h.2 with j|⟨g,cap,cur,rfl,z,G,h1,h2,u,y⟩
 ·exact .inl j
 ·have hlt:g<w.heap.size:=(h.lt g rfl).2
  exact .inr ⟨g,cap,cur,rfl,z,by rw [K.block g hlt (U g rfl),G],h1,h2,u,y⟩
theorem Own.keep (h:Own r base e F w v xs)(y:Kept F w w'):Own r base e F w' v xs:=by
 obtain⟨S,css,u,z,K,hr,U⟩:=h
 exact⟨S,css,λk j=>⟨(u k j).1,jg (u k j).2 y.size⟩,z,K,
  λi cs x G V=>r.keep (hr i cs x G V) (y.mono λk _ h=>(u k h).1),BI U y λk j=>(z k j).2⟩
theorem Own.c' (h:Own r base e F w v xs)(j:Below w.heap.size w w'):Own r base e F w' v xs:=h.keep (Kept.of_below j)
theorem Own.bound (h:Own r base e F w v xs):Own r base e (λk=>F k/\k<w.heap.size) w v xs:=h.mono λ_ u j=>⟨j,u⟩
theorem Own.slice (h:Own r base e F w v xs):(g4 r).rel F w [v] xs:=by
 obtain⟨S,css,Y,af,G,hr,y⟩:=h;rcases y.2 with⟨rfl,V⟩|⟨g,cap,cur,rfl,ai,aj,h1,h2,ag,ah⟩
 ·obtain rfl:=T5 V
  exact g4.nil
 ·refine⟨_,_,_,rfl,rfl,h1,h2,λh=>by simp at h,λi x U=> ?_⟩
  have hi:i<xs.length:=(TI.1 U).1;have z:css[i]? =some css[i]:=(by simp [G,hi]);have hrel:=hr i _ x z U;have ab: ∀cs∈css,cs.length=r.n:=by
   intro cs u;obtain⟨m,K,rfl⟩:=TH u;exact r.len (hr m _ (xs[m]'(by omega)) (by simp [K]) (by simp [G▸K]))
  refine⟨g,0,css[i],rfl,(af g rfl).2,r.mono hrel λk _ ae=>(Y k ae).1,λj c ad=> ?_,(y.lt g rfl).2⟩;have:=pX ab i _ z j c ad;have u:=y.cells (g:=g) rfl (i*r.n+j) c this;rw [Addr.add_lit]at u;simpa using u
end
theorem sZ {j:Type}{Q:Nat->j->Prop}: ∀(n:Nat),(∀i,i<n-> ∃x,Q i x)-> ∃l:List j,l.length=n/\ ∀(i:Nat) (x:j),l[i]? =some x->Q i x
 |0,_=>⟨[],rfl,λi x h=>by simp at h⟩
 |n+1,h=>by
  obtain⟨l,z,G⟩:=sZ n (λi hi=>h i (by omega));obtain⟨x,K⟩:=h n (by omega);refine⟨l++ [x],by simp [z],λi y hy=> ?_⟩;rcases kZ i l.length with hlt|u
  ·rw [TN hlt]at hy;exact G i y hy
  ·rw [TX u]at hy
   obtain⟨h1,h2⟩:=TI.1 hy;simp at h1;have:i=n:=(by omega);subst this;simp at h2;subst h2;exact K
theorem wJ {y:Type}{n:Nat}: ∀ {css:List (List y)},(∀cs∈css,cs.length=n)-> ∀(j:Nat) (c:y),css.flatten[j]? =some c-> ∃i k cs,j=i*n+k/\css[i]? =some cs/\cs[k]? =some c
 | [],_,j,c,h=>by simp at h
 |d::css,u,j,c,h=>by
  have U:d.length=n:=u d (by simp);rw [T4]at h;rcases kZ j d.length with hlt|K
  ·rw [TN hlt]at h
   exact⟨0,j,d,by simp,rfl,h⟩
  ·rw [TX K]at h
   obtain⟨i,k,cs,h1,h2,z⟩:=wJ (css:=css) (λcs G=>u cs (by simp [G])) _ c h;exact⟨i+1,k,cs,by rw [tC];omega,by simpa using h2,z⟩
def Src {α:Type}(r:kS α)(S:Nat->Prop)(w:World)(u:Value)(ys:List α):Prop:=
 ∃(css:List (List Value)) (a:Option Addr) (cap:Nat),u= .slice a ys.length cap/\(a=none->cap=0)/\css.length=ys.length/\
  (∀(i:Nat) (cs:List Value) (y:α),css[i]? =some cs->ys[i]? =some y->r.rel S w cs y)/\
  ∀(j:Nat) (c:Value),css.flatten[j]? =some c-> ∃b off,a=some ⟨b,off,none⟩/\w.cell? ⟨b,off+j,none⟩=some c
theorem qj {α:Type} {r:kS α} {S:Nat->Prop} {w:World} {css:List (List Value)} {ys:List α} (z:css.length=ys.length)
 (hr: ∀(i:Nat) (cs:List Value) (y:α),css[i]? =some cs->ys[i]? =some y->r.rel S w cs y): ∀cs∈css,cs.length=r.n:=by
 intro cs u;obtain⟨m,j,rfl⟩:=TH u;exact r.len (hr m _ (ys[m]'(by omega)) (by simp [j]) (by simp [z▸j]))
theorem K9 {α:Type} {r:kS α} {S:Nat->Prop} {w:World} {css:List (List Value)} {ys:List α} (K:css.length=ys.length)
 (hr: ∀(i:Nat) (cs:List Value) (y:α),css[i]? =some cs->ys[i]? =some y->r.rel S w cs y): ∀u∈css.flatten,u.oneCell'=true:=by
 intro u j;obtain⟨cs,G,j⟩:=List.mem_flatten.1 j;obtain⟨m,z,rfl⟩:=TH G;exact r.one (hr m _ (ys[m]'(by omega)) (by simp [z]) (by simp [K▸z])) u j
theorem Src.of_slice {α:Type}{r:kS α}{S:Nat->Prop}{w:World}{u:Value}{ys:List α}(h:(g4 r).rel S w [u] ys):Src r S w u ys:=by
 obtain⟨a,len,cap,V,rfl,h2,ag,Y,ab⟩:=h;simp at V;obtain⟨css,K,U⟩:=sZ (Q:=λi es=> ∀y,ys[i]? =some y-> ∃b off,a=some ⟨b,off,none⟩/\r.rel S w es y/\jx w b (off+i*r.n) es) ys.length (by
  intro i hi;obtain⟨b,off,es,G,ah,hr,z,hlt⟩:=ab i ys[i] (by simp [hi]);refine⟨es,λy hy=> ?_⟩;have:ys[i]=y:=(by simpa [hi]using hy);subst this;exact⟨b,off,G,hr,z⟩)
 have hr: ∀(i:Nat) (cs:List Value) (y:α),css[i]? =some cs->ys[i]? =some y->r.rel S w cs y:=λi cs y z hy=>by
  obtain⟨b,off,_,h,_⟩:=U i cs z y hy;exact h
 refine⟨css,a,cap,V,Y,K,hr,λj c ae=> ?_⟩;obtain⟨i,k,cs,rfl,z,af⟩:=wJ (qj K hr) j c ae;have hi:i<ys.length:=by rw [<-K];exact(TI.1 z).1
 obtain⟨b,off,G,_,ad⟩:=U i cs z ys[i] (by simp [hi]);exact⟨b,off,G,by rw [<-xG];exact ad k c af⟩
theorem Src.one {α:Type}{r:kS α}{S:Nat->Prop}{w:World}{b off cap:Nat}{es:List Value}{y:α}(h:r.rel S w es y)(K:jx w b off es):Src r S w (.slice (some ⟨b,off,none⟩) 1 cap) [y]:=by
 refine⟨[es],some ⟨b,off,none⟩,cap,rfl,λh=>by simp at h,rfl,λi cs z u G=> ?_,λj c U=>⟨b,off,rfl,K j c (by simpa using U)⟩⟩
 match i with
 |0=>simp at u G;subst u G;exact h
 |i+1=>simp at u
def jj (P:Program)(t e:TypeId)(n bytes:Nat):Prop:=
 P.underlying t=some (.slice e)/\0<n/\ ∃i z,P.info? e=some i/\i.zero=some z/\i.size=n/\i.bytes=bytes/\z.cells.size=n
theorem jj.of {P:Program}{t e:TypeId}{n bytes:Nat}{z:Value}(ht:P.underlying t=some (.slice e))(h:(P.info? e).map (λi=>(i.zero,i.size,i.bytes))=some (some z,n,bytes))(u:z.cells.size=n)(j:0<n):jj P t e n bytes:=by
 obtain⟨U,hi,y,G,K⟩:=info_parts h;exact⟨ht,j,U,z,hi,y,G,K,u⟩
theorem y5 {P:Program} {α:Type} {r:kS α} {base:Nat} {t ty e:TypeId} {bytes:Nat} (ay:jj P t e r.n bytes) {F S:Nat->Prop} {w:World} {v u:Value} {xs ys:List α}
 (h:Own r base e F w v xs) (aI:Src r S w u ys) (ax: ∀k,k<w.heap.size->S k->F k) (ao: ∀k,v.ownBlock=some k-> ¬S k)
 (aw:xs.length+ys.length<=maxLen) (aA:(xs.length+ys.length)*bytes<=140737488355328) (hbase:base<=w.heap.size):
 ∃v' w',(Builtin.append_ #[t,t] ty #[v,u]).run P w= .ok v' w'/\Own r base e (λk=>F k\/w.heap.size<=k) w' v' (xs++ys)/\Kept (λk=>v.ownBlock≠some k) w w'/\
  (v'.ownBlock=v.ownBlock\/v'.ownBlock=some w.heap.size):=by
 obtain⟨ht,au,i,z,hi,aK,hsize,az,aL⟩:=ay;obtain⟨S0,css,V,ab,aj,hr,ak⟩:=h;obtain⟨U,a,cap,rfl,hnone,K,Y,ap⟩:=aI
 cases a with
 |none=>
  have aC:=hnone rfl;subst aC;have aJ:ys= []:=by
   cases ys with
   |nil=>rfl
   |cons y ys=>
    exfalso;have ar:U[0]? =some (U[0]'(by simp [K])):=(by simp [K]);have aF:=r.len (Y 0 _ y ar rfl);have av:=pX (qj K Y) 0 _ ar 0 ((U[0]'(by simp [K]))[0]'(by omega)) (by simp [aF,au]);obtain⟨b,off,h1,_⟩:=ap _ _ av;simp at h1
  subst aJ;refine⟨v,w,run_append_owned_none (P:=P) w base t ty e i r.n ht hi v xs.length css.flatten ak,?_,Kept.refl _ _,.inl rfl⟩;rw [T2];exact⟨S0,css,λk G=>⟨.inl (V k G).1,(V k G).2⟩,λk G=>⟨(ab k G).1,.inl (ab k G).2⟩,aj,hr,ak⟩
 |some al=>
  have hnews: ∀j u,U.flatten[j]? =some u->w.cell? (al.add j)=some u:=by
   intro j u aE;obtain⟨b,off,h1,h2⟩:=ap j u aE;obtain rfl:=jR h1;rw [Addr.add_lit];exact h2
  obtain⟨v',w',aH,aG,ah,_,aq⟩:=run_append_own_at (P:=P) w base t ty e i z r.n bytes ht hi aK hsize az aL au v xs.length css.flatten ak al ys.length cap U.flatten
   (by rw [qp (qj K Y),K]) hnews (K9 K Y) aw aA hbase
  have ai:Kept (λk=>v.ownBlock≠some k) w w':=Kept.Jm ah λk G=>by simp [G]
  refine⟨v',w',aH,?_,ai,aq⟩;refine⟨λk=>S0 k\/(S k/\k<w.heap.size),css++U,?_,?_,by simp [aj,K],?_,by simpa using aG⟩
  ·rintro k (G|⟨G,hlt⟩)
   ·exact⟨.inl (V k G).1,jg (V k G).2 ah.size⟩
   ·exact⟨.inl (ax k hlt G),jg hlt ah.size⟩
  ·intro k G
   rcases aq with af|af
   ·rw [af]at G
    refine⟨?_,.inl (ab k G).2⟩;rintro(h|⟨h,_⟩)
    ·exact(ab k G).1 h
    ·exact ao k G h
   ·rw [af]at G
    obtain rfl:=jR G;refine⟨?_,.inr (g9 _)⟩;rintro(h|⟨_,h⟩)
    ·exact absurd (V _ h).2 (pK _)
    ·exact absurd h (pK _)
  ·intro j cs x ad ae
   rcases kZ j css.length with hlt|aD
   ·rw [TN hlt]at ad
    rw [TN (by omega)]at ae;exact r.mono (r.keep (hr j cs x ad ae) (ai.mono λk _ G=>λag=>(ab k ag).1 G)) λk _ G=> .inl G
   ·rw [TX aD]at ad
    rw [TX (by omega),<-aj]at ae;have h1:=(Y _ cs x ad ae);exact r.mono (r.keep (r.bound h1) (ai.mono λk _ G=>λag=>ao k ag G.1)) λk _ G=> .inr G
theorem ns {P:Program} {o:Oper} {a:Act} {j:Act->World->Prop} {Q:Exit->Act->World->Prop} (s x:Operand) {t:TypeId}
 (ad:o.op= .call { callee:= .builtin .append,args:= #[s,x],argTypes:= #[t,t] }) {α:Type} {r:kS α} {base:Nat} {e:TypeId} {bytes:Nat} (Y:jj P t e r.n bytes) {F S:Nat->Prop} {w:World} {v u:Value} {xs ys:List α}
 (ae:a.eval s=v) (ag:a.eval x=u)
 (h:Own r base e F w v xs) (af:Src r S w u ys) (U: ∀k,k<w.heap.size->S k->F k) (V: ∀k,v.ownBlock=some k-> ¬S k)
 (G:xs.length+ys.length<=maxLen) (ab:(xs.length+ys.length)*bytes<=140737488355328) (hbase:base<=w.heap.size)
 (K: ∀v' w',Own r base e (λk=>F k\/w.heap.size<=k) w' v' (xs++ys)->Kept (λk=>v.ownBlock≠some k) w w'->(v'.ownBlock=v.ownBlock\/v'.ownBlock=some w.heap.size)->j (a.put o.dst v') w'):o.wp P a w j Q:=by
 obtain⟨v',w',hr,h2,y,z⟩:=y5 (ty:=o.type) Y h af U V G ab hbase;unfold Oper.wp execOp;simp only [ad,resolve,invoke,builtin,Sem.run_bind,Sem.run_pure,Result.andThen_ok,List.map_toArray,UG,List.map_nil,ae,ag,hr];exact K v' w' h2 y z
theorem iC {P:Program} {ops:Array Oper} {rest:List Oper} {o:Oper} {a:Act} {Q:Exit->Act->World->Prop} (ad:o.guard=none) (s x:Operand) {t:TypeId}
 (ae:o.op= .call { callee:= .builtin .append,args:= #[s,x],argTypes:= #[t,t] }) {α:Type} {r:kS α} {base:Nat} {e:TypeId} {bytes:Nat} (Y:jj P t e r.n bytes) {F S:Nat->Prop} {w:World} {v u:Value} {xs ys:List α}
 (af:a.eval s=v) (ah:a.eval x=u)
 (h:Own r base e F w v xs) (ag:Src r S w u ys) (U: ∀k,k<w.heap.size->S k->F k) (V: ∀k,v.ownBlock=some k-> ¬S k)
 (z:xs.length+ys.length<=maxLen) (ab:(xs.length+ys.length)*bytes<=140737488355328) (hbase:base<=w.heap.size)
 (G: ∀v' w',Own r base e (λk=>F k\/w.heap.size<=k) w' v' (xs++ys)->Kept (λk=>v.ownBlock≠some k) w w'->(v'.ownBlock=v.ownBlock\/v'.ownBlock=some w.heap.size)->wpList P ops Q rest (a.put o.dst v') w'):
 wpList P ops Q (o::rest) a w:=
 wpList_plain ad λ_ K=>ns s x ae Y af ah h ag U V z ab hbase λv' w' h2 j y=>K _ _ (G v' w' h2 j y)
theorem iV {P:Program} {ops:Array Oper} {o:Oper} {a:Act} {j:Act->World->Prop} {Q:Exit->Act->World->Prop} {E:Prop} (Y:o.guard=none) (s x:Operand) {t:TypeId}
 (ab:o.op= .call { callee:= .builtin .append,args:= #[s,x],argTypes:= #[t,t] }) {α:Type} {r:kS α} {base:Nat} {e:TypeId} {bytes:Nat} (U:jj P t e r.n bytes) {F S:Nat->Prop} {w:World} {v u:Value} {xs ys:List α}
 (ad:a.eval s=v) (af:a.eval x=u)
 (h:Own r base e F w v xs) (ae:Src r S w u ys) (G: ∀k,k<w.heap.size->S k->F k) (K: ∀k,v.ownBlock=some k-> ¬S k)
 (y:xs.length+ys.length<=maxLen) (V:(xs.length+ys.length)*bytes<=140737488355328) (hbase:base<=w.heap.size)
 (z: ∀v' w',Own r base e (λk=>F k\/w.heap.size<=k) w' v' (xs++ys)->Kept (λk=>v.ownBlock≠some k) w w'->(v'.ownBlock=v.ownBlock\/v'.ownBlock=some w.heap.size)->j (a.put o.dst v') w'):
 if Region.wanted o (yielded ops a.tmps)=true then Oper.wp P o a w j Q else E:=by
 have hw:Region.wanted o (yielded ops a.tmps)=true:=by simp [Region.wanted,Y]
 rw [g7 hw];exact ns s x ab U ad af h ae G K y V hbase z
theorem Own.empty {α:Type}(r:kS α)(base:Nat)(e:TypeId){w:World}{b:Nat}(j:w.heap[b]? =some (.cells #[] e (0,0)))(hbase:base<=b):Own r base e (λk=>k=b) w (.slice (some ⟨b,0,none⟩) 0 0) []:=
 ⟨λ_=>False,[],λ_ h=>h.elim,λk h=>⟨λh=>h,by simpa [Value.ownBlock,eq_comm]using h⟩,rfl,λi cs x h=>by simp at h,
  ⟨by simp,.inr ⟨b,0,#[],rfl,hbase,j,g9 _,by unfold maxLen;omega,by simp,by simp⟩⟩⟩
def Plain {α:Type}(r:kS α):Prop:= ∀ {S S':Nat->Prop} {w w':World} {cs:List Value} {x:α},r.rel S w cs x->r.rel S' w' cs x
theorem Plain.int (k:IntKind):Plain (j9 k):=λh=>h
theorem Plain.bool:Plain Io:=λh=>h
theorem Plain.pair {α u:Type}{r:kS α}{s:kS u}(hr:Plain r)(j:Plain s):Plain (jB r s):=by
 rintro S S' w w' cs x ⟨c1,c2,rfl,h1,h2⟩;exact⟨c1,c2,rfl,hr h1,j h2⟩
theorem Src.plain {α:Type}{r:kS α}(U:Plain r){S S':Nat->Prop}{w:World}{u:Value}{ys:List α}(h:Src r S w u ys):Src r S' w u ys:=by
 obtain⟨css,a,cap,h1,h2,j,z,G⟩:=h;exact⟨css,a,cap,h1,h2,j,λi cs y K hy=>U (z i cs y K hy),G⟩
theorem Kept.behind {S:Nat->Prop}{B:Nat}{a b c:World}(h:Below B a b)(y:Kept S b c)(j:B<=b.heap.size)(u: ∀k,k<B->S k):Below B a c:=
 h.trans (Kept.below (y.mono λk _ h=>u k h) j)
def lP {α:Type}(r:kS α)(F:Nat->Prop)(xs:List α)(w:World)(e:Ending)(w':World):Prop:=
 ∃a cap,e= .returned (.slice a xs.length cap)/\(g4 r).rel F w' [.slice a xs.length cap] xs/\Below w.heap.size w w'
theorem lP.mk {α:Type}{r:kS α}{F:Nat->Prop}{xs:List α}{w w':World}{v:Value}(h:(g4 r).rel F w' [v] xs)(j:Below w.heap.size w w'):lP r F xs w (.returned v) w':=by
 obtain⟨a,cap,rfl,_⟩:=g4.form h;exact⟨a,cap,rfl,h,j⟩
theorem b' {W w1:World}{b:Nat}{o:Obj}(j:Below W.heap.size W w1)(h:W.heap[b]? =some o):w1.heap[b]? =some o:=by
 rw [j.block b (Cg.1 h).1,h]
theorem hE {S:Nat->Prop}{W w1:World}{b:Nat}{o:Obj}(u:Kept S W w1)(h:W.heap[b]? =some o)(j:S b):w1.heap[b]? =some o:=by
 rw [u.block b (Cg.1 h).1 j,h]
theorem gY (w:World)(o:Obj):(w.alloc o).heap[w.heap.size]? =some o:=heap_alloc_new w o
theorem iq {w:World}{b:Nat}{o o':Obj}(h:w.heap[b]? =some o):(w.alloc o').heap[b]? =some o:=by
 have hlt:=(Cg.1 h).1;rw [Below.heap_alloc w o' b hlt,h]
theorem h6 {w:World}{b i:Nat}{cs:Array Value}{t:TypeId}{fr:Nat×Nat}{v:Value}(h:w.heap[b]? =some (.cells cs t fr)):(w.setCell ⟨b,i,none⟩ v).heap[b]? =some (.cells (cs.setIfInBounds i v) t fr):=by
 simp [World.setCell,T8,h]
theorem hB {w:World}{b:Nat}{p:Addr}{o:Obj}{v:Value}(h:w.heap[b]? =some o)(j:b≠p.block):(w.setCell p v).heap[b]? =some o:=by
 rw [Below.heap_setCell w p v b j,h]
theorem a' {w:World}{b:Nat}{cs:Array Value}{t:TypeId}(h:w.heap[b]? =some (.cells cs t (0,0))):(∀i,w.cell? ⟨b,i,none⟩=cs[i]?)/\(∀i,w.frozen? ⟨b,i,none⟩=false):=
 ⟨λi=>by simp [World.cell?,h],λi=>by simp [World.frozen?,h]⟩
theorem ii {w:World}{b:Nat}{o:Obj}(h:w.heap[b]? =some o):b<w.heap.size:=(Cg.1 h).1
theorem ny {B:Nat}{a w:World}(h:Below B a w)(n:Nat):Below B a (w.drewN n):=⟨h.os,h.tape,h.output,h.size,h.block⟩
theorem Kept.drewN {S:Nat->Prop}{a b:World}(h:Kept S a b)(n:Nat):Kept S a (b.drewN n):=⟨h.os,h.tape,h.output,h.size,h.block⟩
theorem Own.lt {α:Type}{r:kS α}{base:Nat}{e:TypeId}{F:Nat->Prop}{w:World}{v:Value}{xs:List α}(h:Own r base e F w v xs){k:Nat}(j:v.ownBlock=some k):k<w.heap.size/\F k/\base<=k:=by
 obtain⟨S,css,z,y,G,hr,u⟩:=h;exact⟨(u.lt k j).2,(y k j).2,(u.lt k j).1⟩
theorem jx.new (w:World)(cs:List Value)(t:TypeId):jx (w.alloc (.cells cs.toArray t)) w.heap.size 0 cs:=λj c u=>by
 rw [(a' (gY w (.cells cs.toArray t))).1];simpa using u
theorem xb {P:Program} {w:World} {ops:Array Oper} {rest:List Oper} {o:Oper} {a:Act} {Q:Exit->Act->World->Prop} (ab:o.guard=none) (l c:Operand) {t:TypeId} (ag:o.op=Op.makeSlice t l c)
 {α:Type} (r:kS α) (base:Nat) {e:TypeId} {bytes:Nat} (U:jj P t e r.n bytes) {kl u:IntKind} {C:Int} {n:Nat} (ae:a.eval l= .int kl 0) (Y:a.eval c= .int u C) (G:C=(n:Int))
 (b2:bytes*n<=281474976710656) (b3:n<=maxLen) (y:base<=w.heap.size)
 (K: ∀w',Own r base e (λk=>k=w.heap.size) w' (.slice (some ⟨w.heap.size,0,none⟩) 0 n) []->Below w.heap.size w w'->wpList P ops Q rest (a.put o.dst (.slice (some ⟨w.heap.size,0,none⟩) 0 n)) w'):
 wpList P ops Q (o::rest) a w:=by
 obtain⟨ht,ai,i,z,hi,ah,hsize,V,aj⟩:=U;refine wpList_make_own w ab l c t ag base e i z r.n ht hi ah hsize kl u C n ae Y G (by rw [V];exact b2) b3 y λw' af j=>K w' ?_ ?_
 ·exact⟨λ_=>False,[],λ_ h=>h.elim,λk h=>⟨λh=>h,by simpa [Value.ownBlock,eq_comm]using h⟩,rfl,λi cs x h=>by simp at h,by simpa using af⟩
 ·exact⟨j.os,j.tape,j.output,j.size,λk ad=>j.block k ad (by simp)⟩
theorem rQ {z:Type}{n:Nat}: ∀(css:List (List z)),(∀cs∈css,cs.length=n)-> ∀k,(css.take k).flatten=css.flatten.take (k*n)
 | [],_,k=>by simp
 |d::css,j,0=>by simp
 |d::css,j,k+1=>by
  have y:d.length=n:=j d US;rw [Tr,T4,rQ css (λcs u=>j cs (by simp [u])) k,T4,tC,Uo,y];rw [TK (l:=d) UN];congr 2;omega
theorem UI {z:Type}{n:Nat}: ∀(css:List (List z)),(∀cs∈css,cs.length=n)-> ∀k,(css.drop k).flatten=css.flatten.drop (k*n)
 | [],_,k=>by simp
 |d::css,j,0=>by simp
 |d::css,j,k+1=>by
  have y:d.length=n:=j d US;rw [Ty,UI css (λcs u=>j cs (by simp [u])) k,T4,tC,List.drop_append,y];rw [TM (l:=d) UN,TB];congr 1;omega
def Row {α:Type}(r:kS α)(e:TypeId)(S:UO)(w:World)(g cap:Nat)(xs:List α):Prop:=
 ∃(cur:Array Value) (css:List (List Value)),w.heap[g]? =some (.cells cur e (0,0))/\cur.size=cap*r.n/\css.length=xs.length/\
  (∀(i:Nat) (cs:List Value) (x:α),css[i]? =some cs->xs[i]? =some x->r.rel S w cs x)/\cur.toList.take (xs.length*r.n)=css.flatten/\xs.length<=cap/\ ¬S g/\ ∀k,S k->k<w.heap.size
theorem Own.row {α:Type}{r:kS α}{base:Nat}{e:TypeId}{F:UO}{w:World}{g n cap:Nat}{xs:List α}(h:Own r base e F w (.slice (some ⟨g,0,none⟩) n cap) xs):
 n=xs.length/\base<=g/\cap<=maxLen/\F g/\ ∃S,(∀k,S k->F k)/\Row r e S w g cap xs:=by
 obtain⟨S,css,u,y,Y,hr,ab⟩:=h;rcases ab.2 with⟨h1, -⟩|⟨ae,ad,cur,h1,U,V,h2,z,G,K⟩
 ·simp at h1
 ·simp at h1
  obtain⟨rfl,rfl,rfl⟩:=h1;exact⟨rfl,U,z,(y g rfl).2,S,λk j=>(u k j).1,cur,css,V,G,Y,hr,K,h2,(y g rfl).1,λk j=>(u k j).2⟩
theorem Row.own {α:Type}{r:kS α}{base:Nat}{e:TypeId}{F S:UO}{w:World}{g cap:Nat}{xs:List α}(h:Row r e S w g cap xs)(U: ∀k,S k->F k)(G:F g)(V:base<=g)(Y:cap<=maxLen):
 Own r base e F w (.slice (some ⟨g,0,none⟩) xs.length cap) xs:=by
 obtain⟨cur,css,ab,y,u,hr,z,h2,ad,K⟩:=h;refine⟨S,css,λk j=>⟨U k j,K k j⟩,λk j=> ?_,u,hr,?_,.inr ⟨g,cap,cur,rfl,V,ab,h2,Y,y,z⟩⟩
 ·simp [Value.ownBlock]at j;subst j;exact⟨ad,G⟩
 ·rw [qp (qj u hr),u]
theorem Row.lt {α:Type}{r:kS α}{e:TypeId}{S:UO}{w:World}{g cap:Nat}{xs:List α}(h:Row r e S w g cap xs):g<w.heap.size:=by
 obtain⟨cur,css,j, -⟩:=h;exact ii j
theorem Row.keep {α:Type}{r:kS α}{e:TypeId}{S:UO}{w w':World}{g cap:Nat}{xs:List α}(h:Row r e S w g cap xs)(j:Kept (λk=>S k\/k=g) w w'):Row r e S w' g cap xs:=by
 obtain⟨cur,css,K,u,V,hr,y,h2,Y,z⟩:=h;exact⟨cur,css,hE j K (.inr rfl),u,V,λi cs x G ab=>r.keep (hr i cs x G ab) (j.mono λk _ h=> .inl h),y,h2,Y,λk U=>jg (z k U) j.size⟩
theorem Row.slice {α:Type}{r:kS α}{e:TypeId}{S:UO}{w:World}{g cap:Nat}{xs:List α}(h:Row r e S w g cap xs)(j:cap<=maxLen):(g4 r).rel (λk=>S k\/k=g) w [.slice (some ⟨g,0,none⟩) xs.length cap] xs:=
 (h.own (F:=λk=>S k\/k=g) (base:=0) (λ_ h=> .inl h) (.inr rfl) (iy _) j).slice
theorem i9 (w:World)(g:Nat)(cs:Array Value):Kept (λk=>k≠g) w (w.setRow g cs):=
 ⟨rfl,rfl,rfl,US,λk _ j=>setRow_other w g k cs j⟩
theorem Row.rewrite {α:Type} {r:kS α} {e:TypeId} {S:UO} {w:World} {g cap:Nat} {ys:List α} {css:List (List Value)} {cur:Array Value} (Y:w.heap[g]? =some (.cells cur e (0,0))) (y: ¬S g) (K: ∀k,S k->k<w.heap.size)
 (ab:css.length=ys.length) (hr: ∀(i:Nat) (cs:List Value) (x:α),css[i]? =some cs->ys[i]? =some x->r.rel S w cs x) (j:List Value) (z:j.length=cap*r.n) (G:j.take (ys.length*r.n)=css.flatten) (h2:ys.length<=cap):
 Row r e S (w.setRow g j.toArray) g cap ys:=
 ⟨j.toArray,css,kr w g cur _ e _ Y,by simpa using z,ab,λi cs x U ad=>r.keep (hr i cs x U ad) ((i9 w g _).mono λk _ u V=>y (V▸u)),by simpa using G,h2,y,λk u=>by simpa using K k u⟩
theorem nu (g:Nat)(e:TypeId): ∀(u:List Value) (o:Nat) (w:World) (cur:Array Value),w.heap[g]? =some (.cells cur e (0,0))->o+u.length<=cur.size->
 w.setCells g o u=w.setRow g (cur.toList.take o++u++cur.toList.drop (o+u.length)).toArray
 | [],o,w,cur,y,_=>by simp [World.setCells,setRow_self w g cur e (0,0) y]
 |v::u,o,w,cur,y,hlt=>by
  simp only [Tz]at hlt;rw [World.setCells,nu g e u (o+1) (w.setCell ⟨g,o,none⟩ v) (cur.setIfInBounds o v) (h6 y) (by simp;omega)];have hw: ∀cs:Array Value,(w.setCell ⟨g,o,none⟩ v).setRow g cs=w.setRow g cs:=by
   intro cs;simp only [World.setRow,World.setCell];congr 1;apply Array.ext_getElem?;intro j;simp only [T8];split
   ·rename_i G;subst G;rw [y];simp
   ·rfl
  rw [hw];congr 2;rw [Array.toList_setIfInBounds];have K:cur.toList.length=cur.size:=US
  generalize cur.toList=L at*
  have z:(L.set o v).take (o+1)=L.take o++ [v]:=by
   rw [List.set_eq_take_append_cons_drop,g7 UN,Uo,TK (by simp;omega),Tq,sq UN,Nat.add_sub_cancel_left];simp
  rw [z,List.drop_set_of_lt UN,Tt (L.take o),List.singleton_append];congr 2;simp only [Tz];omega
theorem Row.store {α:Type}{r:kS α}{e:TypeId}{S:UO}{w:World}{g cap:Nat}{xs:List α}(h:Row r e S w g cap xs)(i:Nat)(hi:i<xs.length){es:List Value}{x:α}(ab:r.rel S w es x):
 Row r e S (w.setCells g (i*r.n) es) g cap (xs.set i x)/\Kept (λk=>k≠g) w (w.setCells g (i*r.n) es):=by
 obtain⟨cur,css,V,G,K,hr,ad,h2,ah,ae⟩:=h;have z:=r.len ab;have U:=qj K hr;have ag:(i+1)*r.n<=xs.length*r.n:=Ce _ hi;have ai:xs.length*r.n<=cap*r.n:=Ce _ h2;have af:cur.toList.length=cap*r.n:=by simpa using G
 rw [tC]at ag;rw [nu g e es (i*r.n) w cur V (by rw [G,z];omega)];refine⟨Row.rewrite (css:=css.set i es) V ah ae (by simp [K]) ?_ _ ?_ ?_ (by simpa using h2),i9 w g _⟩
 ·intro j cs y u hy
  rw [TR]at u hy;by_cases Y:i=j
  ·subst Y
   simp [K,hi]at u hy;subst u hy;exact ab
  ·rw [g3 Y]at u hy
   exact hr j cs y u hy
 ·simp only [U3,Tq,Ts,Array.length_toList,G,z]
  omega
 ·rw [TG,List.set_eq_take_append_cons_drop,g7 UN,List.flatten_append,T4,rQ css U,UI css U,<-ad,z]
  rw [T7,sq UN,Tt,Uo,T7,Nat.min_eq_right UN];congr 1;rw [Tq,af,sq UN,Uo,TK UN];congr 1;rw [z,List.drop_take,tC];congr 1;omega
theorem Row.at {α:Type}{r:kS α}{e:TypeId}{S:UO}{w:World}{g cap:Nat}{xs:List α}(h:Row r e S w g cap xs)(i:Nat)(hi:i<xs.length):
 ∃es,r.rel S w es xs[i]/\jx w g (i*r.n) es:=by
 obtain⟨cur,css,G,U,y,hr,z,h2,Y,V⟩:=h;have u:css[i]? =some (css[i]' UN):=by simp [y,hi]
 refine⟨css[i]' UN,hr i _ _ u (by simp [hi]),λj c K=> ?_⟩;have:=pX (qj y hr) i _ u j c K;rw [(a' G).1,<-Array.getElem?_toList];rw [<-z,T9]at this;split at this
 ·exact this
 ·simp at this
def ig (a b:Int):Int:=(a+b) % 18446744069414584321
def kM (a b:Int):Int:=a*b % 18446744069414584321
def mz (a:Int):Int:=a % 18446744069414584321
def mn (a:Int)(e:Nat):Int:=a^e % 18446744069414584321
theorem Bn (a b:Int):0<=ig a b/\ig a b<18446744069414584321:=by unfold ig;omega
theorem qh (a b:Int):0<=kM a b/\kM a b<18446744069414584321:=by
 unfold kM;generalize a*b=c;omega
theorem oE (a:Int):0<=mz a/\mz a<18446744069414584321:=by unfold mz;omega
theorem F4 (a:Int)(e:Nat):0<=mn a e/\mn a e<18446744069414584321:=by
 unfold mn;generalize a^e=c;omega
theorem EN {a:Int}(j:0<=a)(h1:a<18446744069414584321):mz a=a:=by unfold mz;omega
theorem JW (a b:Int):ig (mz a) (mz b)=ig a b:=by unfold ig mz;omega
theorem CT (a b:Int):kM (mz a) (mz b)=kM a b:=by unfold kM mz;exact(zR a b _).symm
theorem uD (a n:Int): ∀e:Nat,(a % n)^e % n=a^e % n
 |0=>by rw [zS,zS]
 |e+1=>by
  rw [qR,qR,zR,uD a n e,Int.emod_emod,<-zR]
theorem CN (a:Int)(e:Nat):mn (mz a) e=mn a e:=by unfold mn mz;exact uD a _ e
theorem pow_odd (r b:Int)(k:Nat)(u:k % 2=1):kM (kM r b) (mn (kM b b) (k / 2))=kM r (mn b k):=by
 unfold kM mn;rw [uD,<-zR,zR r,Int.emod_emod,<-zR];have e:(b*b)^(k / 2)=b^(2*(k / 2)):=by rw [Int.pow_mul];congr 1;exact(qR b 1).symm▸by rw [Int.pow_one]
 have j:b^k=b^(2*(k / 2))*b:=by rw [<-qR];congr 1;omega
 rw [e,j,Int.mul_comm (b^_) b,<-Cb]
theorem pow_even (r b:Int)(k:Nat)(j:k % 2=0):kM r (mn (kM b b) (k / 2))=kM r (mn b k):=by
 unfold kM mn;rw [uD];have e:(b*b)^(k / 2)=b^(2*(k / 2)):=by rw [Int.pow_mul];congr 1;exact(qR b 1).symm▸by rw [Int.pow_one]
 rw [e,show 2*(k / 2)=k by omega]
theorem yd {r:Int}(j:0<=r)(h1:r<18446744069414584321)(b:Int):kM r (mn b 0)=r:=by
 unfold kM mn;rw [zS];omega
theorem F3 (a:Int)(e:Nat):kM 1 (mn a e)=mn a e:=by
 have:=F4 a e;unfold kM;omega
def oL (hi j q r:Int):Prop:=
 hi=q*4294967295+r/\0<=q/\((0<=r/\r<4294967295/\q<=4294967296)\/(r=4294967295/\q<=4294967295/\j<=q))
theorem oL.start {hi j:Int}(u:0<=hi)(h1:hi<18446744069414584321):oL hi j (hi / 4294967295) (hi-hi / 4294967295*4294967295):=by
 unfold oL;omega
theorem oL.next {hi j q r:Int}(h:oL hi j q r)(h1:hi<18446744069414584321)(y:0<=j)(z:j<4294967296)(u:4294967296<=q\/4294967296*r+j<q):oL hi j (q-1) (r+4294967295)/\r+4294967295<4294967296/\1<=q/\r=0:=by
 unfold oL at*;omega
theorem oL.done {hi j q r:Int}(h:oL hi j q r)(u:0<=j)(y:j<4294967296)(h1:q<4294967296)(h2:q<=4294967296*r+j):
 (hi*4294967296+j)-q*18446744069414584321=4294967296*r+j-q/\0<=4294967296*r+j-q/\4294967296*r+j-q<18446744069414584321:=by
 unfold oL at h;omega
theorem oL.bounds {hi j q r:Int}(h:oL hi j q r):0<=q/\q<=4294967296/\0<=r/\r<=4294967295:=by
 unfold oL at h;omega
open Go.Sort
section
variable {P:Program} {ops:Array Oper} {md:Region.Mode} {C:World->Prop}
def Ci (P:Program)(md:Region.Mode)(ops:Array Oper)(C:World->Prop)(n:Nat)(L:Array Bool->Act->Prop):Nat->Array Bool->Act->Prop
 |0,listed,a=>L listed a
 |f+1,listed,a=>Region.ready md ops listed≠ []/\ ∀i∈Region.ready md ops listed,i<n/\qOp P ops C i (Ci P md ops C n L f (listed.setIfInBounds i true)) a
theorem UM {n g:Nat}{L:Array Bool->Act->Prop}{Q':Exit->Act->World->Prop}(j: ∀listed a w,C w->L listed a->wpAny P md ops Q' g listed a w):
 ∀(f:Nat) (listed:Array Bool) (a:Act) (w:World),C w->Ci P md ops C n L f listed a->wpAny P md ops Q' (f+g) listed a w
 |0,listed,a,w,hw,h=>by rw [nC];exact j _ _ _ hw h
 |f+1,listed,a,w,hw,h=>by
  rw [show f+1+g=(f+g)+1 by omega];exact⟨λz=>absurd z h.1,λi hi=>wpOp_of_qOp hw (λu w' G y=>UM j f _ u w' G y) (h.2 i hi).2⟩
theorem DQ {n i:Nat} {G:Oper} {v:Value} {L:Array Bool->Act->Prop} (hi:ops[i]? =some G) (ab: ∀(j:Nat) (o:Oper) cs b,ops[j]? =some o->o.op≠ .select cs b)
 (ar:Region.sinkB md ops n=true) (ah:Region.chainB md ops n=true) (ao:n<ops.size) (aj:i<n)
 (hdone: ∀listed a,L listed a-> ∀j∈Region.ready md ops listed,n<=j):
 ∀(f:Nat) (listed:Array Bool) (a:Act),HeadInv md ops n listed->
  (∀j z,ops[j]? =some z->j≠i->listed.getD j true=false->(∀e∈z.after,Region.binds md e=true->e.on≠i)->G.apart ops z=true)->
  i∈Region.ready md ops listed->YieldsIn P ops C G v a->
  Ci P md ops C n L f (listed.setIfInBounds i true) (a.put G.dst v)->Ci P md ops C n L (f+1) listed a:=by
 have small: ∀(listed:Array Bool),HeadInv md ops n listed->i∈Region.ready md ops listed-> ∀j∈Region.ready md ops listed,j<n:=λlisted inv hr j u=>by
  rcases kZ j n with h|h
  ·exact h
  ·exact absurd u (tail_waits ar ah ao inv _ i rfl aj (mem_ready.1 hr).1 j h)
 intro f
 induction f with
 |zero=>
  intro listed a inv _ hr hy H;refine⟨λh=>(by rw [h]at hr;cases hr),λj u=>⟨small listed inv hr j u,?_⟩⟩;by_cases y:j=i
  ·subst y;exact hy.qOp hi H
  ·have h1:=hdone _ _ H j (ready_mono u y)
   have h2:=small listed inv hr j u;omega
 |succ f av=>
  intro listed a inv hfree hr hy H;have au:=(mem_ready.1 hr).1;refine⟨λh=>(by rw [h]at hr;cases hr),λj u=>⟨small listed inv hr j u,?_⟩⟩;by_cases y:j=i
  ·subst y;exact hy.qOp hi H
  ·have h1:=(H.2 j (ready_mono u y)).2
   obtain⟨Y,z,K,af⟩:=mem_ready.1 u;have aq: ∀e∈z.after,Region.binds md e=true->e.on≠i:=λe ai ag heq=>by
    have h1:=af e ai ag;rw [heq,getD_both au]at h1
    cases h1
   have h2:=qOp_put K (hfree j z K y Y aq) (λcs b=>ab i G cs b hi) (λcs b=>ab j z cs b K) hy h1
   have hfree': ∀k ok,ops[k]? =some ok->k≠i->(listed.setIfInBounds j true).getD k true=false->
    (∀e∈ok.after,Region.binds md e=true->e.on≠i)->G.apart ops ok=true:=λk ok ak al ad ap=>by
    refine hfree k ok ak al ?_ ap;by_cases V:j=k
    ·subst V;exact Y
    ·rw [getD_set_ne true V]at ad;exact ad
   refine qOp_mono (λae U=>av (listed.setIfInBounds j true) ae (inv.set u (small listed inv hr j u)) hfree' (ready_mono hr (nB y)) U.1 ?_) h2;rw [Array.setIfInBounds_comm _ _ y];exact U.2
theorem As {n g:Nat}{G:Act->Prop}(af:Region.noSelect ops=true)(ae:Region.sinkB md ops n=true)(U:Region.chainB md ops n=true)(ab:n<ops.size):
 ∀(l:List Oper) (k:Nat) (listed:Array Bool) (a:Act),(∀j,j<l.length->l[j]? =ops[k+j]?)->k+l.length=n->HeadInv md ops n listed->
 Region.lexHead md ops g l.length k listed=true->wpQuiet P ops C G l a->
 Ci P md ops C n (λag K=>Region.seqB md ops g n ag=true/\G K) l.length listed a
 | [],k,listed,a,_,z,_,y,h=>by
   have:k=n:=(by simpa using z);subst this;exact⟨by simpa [Region.lexHead]using y,h⟩
 |o::l,k,listed,a,Y,z,inv,y,h=>by
  have u:ops[k]? =some o:=by simpa using(Y 0 US).symm
  simp only [Tz,Region.lexHead,kg]at y;obtain⟨⟨hr,ak⟩,ah⟩:=y;have V:k<n:=by simp only [Tz]at z;omega
  have ad:k∈Region.ready md ops listed:=by simpa using hr
  have al:qOp P ops C k (wpQuiet P ops C G l) a:=by unfold qOp;simp only [u];exact h
  obtain⟨v,hy,ai⟩:=yieldsIn_of_qOp u al
  exact DQ u (Region.noSelect_spec af) ae U ab V (λag K aj=>seqB_ready aj.1) l.length listed a inv (Region.free_spec u ak) ad hy
   (As af ae U ab l (k+1) _ _ (λj ao=>by have:=Y (j+1) (by simp;omega);simpa [xG,Nat.add_comm 1 j]using this) (by simp only [Tz]at z;omega) (inv.set ad V) ah ai)
theorem hI {id:Nat} {Q:Exit->Act->World->Prop} {a:Act} {w:World} {l:List Oper} (n:Nat) (af:P.follows .mixedOrders=true) (z:Region.lexTailB .any l.toArray n=true)
 (h:wpQuiet P l.toArray (λw'=> ∃p:Regrown,w'=grow (redrawn w p.d) p.os) (λy=> ∀w',(∃p:Regrown,w'=grow (redrawn w p.d) p.os)->wpList P l.toArray Q (l.drop n) y w') (l.take n) a):(Code.region id l.toArray true).wp P Q a w:=by
 simp only [Region.lexTailB,kg,jk]at z;obtain⟨⟨⟨⟨ah,Y⟩,ag⟩,ab⟩,ae⟩:=z;have ak:n<l.length:=by simpa using Y
 have u:(l.take n).length=n:=by simp;omega
 have K:(l.drop n).length=l.toArray.size-n:=US
 have aj:HeadInv .any l.toArray n (Array.replicate l.toArray.size false):=
  ⟨US,λj al _ V=>(by rw [getD_replicate_false]at V;cases V),λt _ ht=>getD_in (by simpa using ht) (getD_replicate_false _ _)⟩
 have H:=As (md:= .any) (g:=l.toArray.size-n) ah ag ab Y (l.take n) 0 _ a (λj U=>by
  have ad:j<n:=(by rw [u]at U;exact U);simp [ad]) (by simpa using u) aj (by rw [u];exact ae) h
 refine wp_region_any af ?_;have:=UM (Q':=Q) (g:=l.toArray.size-n) (λlisted y w' ai G=>by
  have:=wpAny_of_seq (md:= .any) (Q':=Q) (l.drop n) n listed y w' (λj=>by simp [List.getElem?_drop]) (by rw [K];exact G.1) (G.2 w' ai)
  rwa [K]at this) _ _ _ { w with drawn:=w.drawn+1 } ⟨⟨w.drawn+1,#[]⟩,by rw [grow_empty];rfl⟩ H
 rw [u,show n+(l.toArray.size-n)=l.toArray.size by omega]at this;exact this
end
theorem g0 {w:World}{b:Nat}{cs:Array Value}{t:TypeId}(h:w.heap[b]? =some (.cells cs t (0,0))): ∀(d:Nat) (os:Array Obj) (i:Nat),(grow (redrawn w d) os).cell? ⟨b,i,none⟩=cs[i]? :=
 λd os i=>(a' (b' (lm w d os) h)).1 i
theorem hW {w:World}{a:Addr}{v:Value}(h:w.cell? a=some v): ∀(d:Nat) (os:Array Obj),(grow (redrawn w d) os).cell? a=some v:=λd os=>cell_regrown h d os
def Reads {α:Type}(H:Type)(enc:TypeId×Value->H)(P:Program)(W:World)(r:kS α)(t:TypeId):Prop:=
 ∀(fuel:Nat) (cs:List Value) (x:DataW H×List MemPlace),DataW.trod enc P W 0 (λ_=>true) true fuel t cs=some x-> ∃a,r.rel (λk=>k<W.heap.size) W cs a
section
variable {H:Type} {enc:TypeId×Value->H} {P:Program} {W:World}
theorem Reads.int {k:IntKind}{t:TypeId}(ht:P.underlying t=some (.int k)):Reads H enc P W (j9 k) t:=by
 intro fuel cs x h;obtain⟨n,rfl, -,hw⟩:=DataW.trod_int ht h;exact⟨n,rfl,hw⟩
theorem Reads.slice {α:Type}{r:kS α}{t e:TypeId}(hr:Reads H enc P W r e)(ht:P.underlying t=some (.slice e))(av:P.cellsOf e=r.n)(z:0<r.n):Reads H enc P W (g4 r) t:=by
 intro fuel cs x h;rcases DataW.trod_slice ht h with⟨rfl, -⟩|⟨a,len,cap,elems,rest,n, -,rfl, -, -,ar,au,ao,Y, -⟩
 ·exact⟨[],g4.nil⟩
 ·rw [av]at Y
  obtain⟨xs,aw,ag⟩:=sZ (Q:=λi (y:α)=> ∃es,W.cells? 0 (a.add (i*r.n)) r.n=some es/\r.rel (λk=>k<W.heap.size) W es y) len (by
   intro i hi;have h1:=Y i hi;have h2:elems[i]? =some (elems[i]' UN):=(by simp [ao,hi]);rw [h2,Option.bind_eq_some_iff]at h1;obtain⟨es,U,G⟩:=h1;obtain⟨y,hy⟩:=hr n es _ G;exact⟨y,es,U,hy⟩)
  refine⟨xs,some a,len,cap,rfl,aw.symm,ar,au,λh=>by simp at h,λi y hy=> ?_⟩;obtain⟨es,U,G⟩:=ag i y hy;obtain⟨-,ax,V⟩:=World.cells?_some U;have u:=V 0 z;have ad:es.length=r.n:=r.len G;have al:es[0]? =some (es[0]' UN):=(by simp [ad,z]);rw [al]at u;have af:a.spot=none:=by
   have hi:i<xs.length:=(TI.1 hy).1;obtain⟨K,ah,ai⟩:=ag 0 (xs[0]' UN) US;obtain⟨-, -,aj⟩:=World.cells?_some ah;have ab:=aj 0 z;have ap:K.length=r.n:=r.len ai;have ak:K[0]? =some (K[0]' UN):=(by simp [ap,z]);rw [ak,Nat.zero_mul]at ab;exact World.cell?_spot ab
  obtain⟨b,o,ay⟩:=a;simp only at af;subst af;refine⟨b,o,es,rfl,?_,G,λj c ae=> ?_,?_⟩
  ·rw [Addr.add_lit,Addr.add_lit]at u;exact ko u
  ·have aq:j<r.n:=by rw [<-ad];exact(TI.1 ae).1
   have:=V j aq;rw [Addr.add_lit,Addr.add_lit,ae]at this;exact this
  ·rw [Addr.add_lit,Addr.add_lit]at u;exact ko u
def rJ (Q:TypeId->Nat->Prop):List Field->Prop
 | []=>True
 |f::fs=>Q f.type f.offset/\rJ Q fs
theorem tJ (Q:TypeId->Nat->Prop): ∀(fs:List Field),(∀(i:Nat) (f:Field),fs[i]? =some f->Q f.type f.offset)->rJ Q fs
 | [],_=>trivial
 |f::fs,h=>⟨h 0 f rfl,tJ Q fs λi g j=>h (i+1) g (by simpa using j)⟩
theorem wt {base:Nat} {G:Nat->Bool} {j:Bool} {fuel:Nat} {t:TypeId} {cs:List Value} {x:DataW H×List MemPlace} {fs:List Field}
 (ht:P.underlying t=some (.struct fs.toArray)) (h:DataW.trod enc P W base G j fuel t cs=some x):
 cs.length=P.cellsOf t/\ ∃n,rJ (λu o=> ∃y,DataW.trod enc P W base G j n u ((cs.drop o).take (P.cellsOf u))=some y) fs:=by
 obtain⟨xs,n, -, -,U,V,K⟩:=DataW.trod_struct ht h;refine⟨U,n,tJ _ fs λi f z=> ?_⟩;have hi:i<xs.length:=by
  rw [V];have:=(TI.1 z).1;simpa using this
 exact⟨xs[i],by rw [K i f (by simpa using z)];simp [hi]⟩
theorem Reads.four {α β γ δ:Type} {ah:kS α} {r1:kS β} {r2:kS γ} {r3:kS δ} {t y z G K:TypeId} {f0 f1 j u:Field} (ht:P.underlying t=some (.struct #[f0,f1,j,u])) (ao:P.cellsOf t=4)
 (ae:f0.type=y/\f0.offset=0) (h1:f1.type=z/\f1.offset=1) (h2:j.type=G/\j.offset=2) (af:u.type=K/\u.offset=3)
 (c0:P.cellsOf y=1) (c1:P.cellsOf z=1) (c2:P.cellsOf G=1) (al:P.cellsOf K=1)
 (k0:Reads H enc P W ah y) (k1:Reads H enc P W r1 z) (ap:Reads H enc P W r2 G) (aq:Reads H enc P W r3 K):Reads H enc P W (jB ah (jB r1 (jB r2 r3))) t:=by
 intro fuel cs x h;obtain⟨ag,n,⟨aA,V⟩,⟨aC,Y⟩,⟨aD,ab⟩,⟨aE,ad⟩, -⟩:=wt (fs:= [f0,f1,j,u]) ht h;rw [ao]at ag
 match cs,ag with
 | [v0,v1,v2,U],_=>
   rw [ae.1,ae.2,c0]at V;rw [h1.1,h1.2,c1]at Y;rw [h2.1,h2.2,c2]at ab;rw [af.1,af.2,al]at ad;obtain⟨ai,ar⟩:=k0 n _ _ V;obtain⟨aj,au⟩:=k1 n _ _ Y;obtain⟨a2,av⟩:=ap n _ _ ab;obtain⟨ak,aw⟩:=aq n _ _ ad;exact⟨(ai,aj,a2,ak),[v0],[v1,v2,U],rfl,ar,[v1],[v2,U],rfl,au,[v2],[U],rfl,av,aw⟩
end
theorem km {P:Program} {ops:Array Oper} {rest:List Oper} {o:Oper} {a:Act} {Q:Exit->Act->World->Prop} (ae:o.guard=none) (s x:Operand) {t:TypeId}
 (ag:o.op= .call { callee:= .builtin .append,args:= #[s,x],argTypes:= #[t,t] }) {α:Type} {r:kS α} {e:TypeId} {bytes:Nat} (Y:jj P t e r.n bytes) {S T:UO} {B:Nat} {w0 wr:World} {v:Value} {xs:List α} {es:List Value} {y:α}
 (ai:a.eval s=v) (aj:a.eval x= .slice (some ⟨wr.heap.size,0,none⟩) 1 1)
 (ab:Below B w0 wr) (U:B<=wr.heap.size) (G:Own r B e (λx=>S x\/B<=x) wr v xs) (hy:r.rel T wr es y) (z: ∀k,T k->(S k\/B<=k)/\v.ownBlock≠some k)
 (K:xs.length+1<=maxLen) (ad:(xs.length+1)*bytes<=140737488355328)
 (V: ∀v' w',Own r B e (λx=>S x\/B<=x) w' v' (xs++ [y])->Below B w0 w'->wpList P ops Q rest (a.put o.dst v') w'):
 wpList P ops Q (o::rest) a (wr.alloc (.cells es.toArray e)):=by
 have u:=jc wr (.cells es.toArray e);refine iC (ys:= [y]) ae s x ag Y ai aj (G.c' u) (Src.one (r.c' hy u) (jx.new wr es e)) (λk _ j=>(z k j).1) (λk j h=>(z k h).2 j) K ad (by simp;omega) λv' w' ah af _=>V v' w' ?_ ?_
 ·refine ah.mono λk _ h=> ?_
  rcases h with h|h
  ·exact h
  ·simp at h;exact .inr UN
 ·exact Kept.behind (ab.trans (u.mono U)) af (by simp;omega) λk j h=>by have:=(G.lt h).2.2;omega
section
variable {H:Type} {enc:TypeId×Value->H} {P:Program} {W:World}
theorem Reads.bool {t:TypeId}(ht:P.underlying t=some .bool):Reads H enc P W Io t:=by
 intro fuel cs x h;obtain⟨n,rfl, -⟩:=DataW.trod_bool ht h;exact⟨n,rfl⟩
theorem Reads.map {α j:Type}{r:kS α}{t:TypeId}(g:α->j)(f:j->α)(y: ∀x,f (g x)=x)(h:Reads H enc P W r t):Reads H enc P W (zj f r) t:=by
 intro fuel cs x z;obtain⟨a,u⟩:=h fuel cs x z;exact⟨g a,by show r.rel _ _ _ (f (g a));rw [y];exact u⟩
inductive q5 (H:Type) (enc:TypeId×Value->H) (P:Program) (W:World):Nat->List Field->(α:Type)->kS α->Prop
 |last {o:Nat} {f:Field} {α:Type} {r:kS α} (ho:f.offset=o) (hc:P.cellsOf f.type=r.n) (hr:Reads H enc P W r f.type):q5 H enc P W o [f] α r
 |more {o:Nat} {f:Field} {fs:List Field} {α β:Type} {r:kS α} {s:kS β} (ho:f.offset=o) (hc:P.cellsOf f.type=r.n) (hr:Reads H enc P W r f.type) (h:q5 H enc P W (o+r.n) fs β s):
  q5 H enc P W o (f::fs) (α×β) (jB r s)
theorem q5.read {o:Nat} {fs:List Field} {α:Type} {r:kS α} (h:q5 H enc P W o fs α r) {n:Nat} {cs:List Value} (V:cs.length=o+r.n)
 (j:rJ (λu o=> ∃y,DataW.trod enc P W 0 (λ_=>true) true n u ((cs.drop o).take (P.cellsOf u))=some y) fs): ∃a,r.rel (λk=>k<W.heap.size) W (cs.drop o) a:=by
 induction h with
 |last G z hr=>
  obtain⟨⟨y,hy⟩, -⟩:=j;rw [G,z,TK (by rw [Ts];omega)]at hy;exact hr n _ _ hy
 | @more o f fs α β r s G z hr h Y=>
   obtain⟨⟨y,hy⟩,j⟩:=j;have ab:cs.length=o+(r.n+s.n):=V;rw [G,z]at hy;obtain⟨a,K⟩:=hr n _ _ hy;obtain⟨b,U⟩:=Y UN j;refine⟨(a,b),(cs.drop o).take r.n,cs.drop (o+r.n),?_,K,U⟩;rw [<-List.drop_drop,Tp]
theorem Reads.struct {t:TypeId}{fs:List Field}{α:Type}{r:kS α}(ht:P.underlying t=some (.struct fs.toArray))(j:P.cellsOf t=r.n)(h:q5 H enc P W 0 fs α r):Reads H enc P W r t:=by
 intro fuel cs x z;obtain⟨y,n,u⟩:=wt ht z;have:=h.read (n:=n) (cs:=cs) (by rw [y,j];omega) u;simpa using this
theorem Reads.array2 {t e:TypeId}{α:Type}{r:kS α}(ht:P.underlying t=some (.array 2 e))(G:P.cellsOf t=r.n+r.n)(K:P.cellsOf e=r.n)(hr:Reads H enc P W r e):Reads H enc P W (jB r r) t:=by
 intro fuel cs x V;obtain⟨xs,m, -, -,U,Y,u⟩:=DataW.trod_array ht V
 match xs,Y with
 | [ab,ad],_=>
   have j:=u 0 UN;have h1:=u 1 UN;rw [K]at j h1;simp only [Nat.zero_mul,Tg,Nat.one_mul]at j h1;obtain⟨a,z⟩:=hr m _ ab j;obtain⟨b,y⟩:=hr m _ ad h1;rw [TK (by rw [Ts,U,G];omega)]at y;exact⟨(a,b),_,_,(Tp r.n cs).symm,z,y⟩
theorem nv {α:Type} {r:kS α} {t:TypeId} {fs:Array Field} {rc:Reach} {j:Nat} {v:Value} {d:DataW H} {ps:List MemPlace} (ht:P.underlying t=some (.struct fs)) (hr:Reads H enc P W r t)
 (y:Value.okWide P W rc j t v) (h:DataW.Trod enc P W 0 (λ_=>true) true t v d ps): ∃cs x,v= .agg cs/\r.rel (λk=>k<W.heap.size) W cs.toList x:=by
 obtain⟨cs,rfl, -⟩:=okWide_struct ht y;obtain⟨fuel,u⟩:=h;obtain⟨x,z⟩:=hr fuel _ _ u;exact⟨cs,x,rfl,z⟩
theorem y9 {α:Type} {r:kS α} {t e:TypeId} {rc:Reach} {u:Nat} {v:Value} {d:DataW H} {ps:List MemPlace} (ht:P.underlying t=some (.slice e)) (hr:Reads H enc P W (g4 r) t)
 (z:Value.okWide P W rc u t v) (h:DataW.Trod enc P W 0 (λ_=>true) true t v d ps): ∃a cap xs,v= .slice a xs.length cap/\(g4 r).rel (λk=>k<W.heap.size) W [.slice a xs.length cap] xs:=by
 obtain⟨a,len,cap,rfl⟩:=okWide_slice ht z;obtain⟨fuel,y⟩:=h;obtain⟨xs,G⟩:=hr fuel _ _ y;have j:(g4 r).rel (λk=>k<W.heap.size) W [.slice a len cap] xs:=G;obtain⟨rfl, -⟩:=g4.lens j;exact⟨a,cap,xs,rfl,j⟩
end
theorem uZ {α j:Type}(f:α->j): ∀xs:List α,(xs.map λx=> [f x]).flatten=xs.map f
 | []=>rfl
 |x::xs=>by simp [uZ f xs]
theorem nr {k:IntKind} {base:Nat} {e:TypeId} {w:World} {g cap:Nat} {xs:List Int} {cur:List Value} (z:w.heap[g]? =some (.cells cur.toArray e (0,0))) (U:cur.length=cap) (ht:cur.take xs.length=xs.map (Value.int k))
 (V: ∀x∈xs,(Lit.int k x).wf=true) (G:xs.length<=cap) (K:cap<=maxLen) (u:base<=g):Own (j9 k) base e (λx=>False\/base<=x) w (.slice (some ⟨g,0,none⟩) xs.length cap) xs:=by
 refine Row.own (S:=λ_=>False) ⟨cur.toArray,xs.map (λx=> [.int k x]),z,by simp [U,j9],US,λi cs x j y=> ?_,?_,G,λh=>h,λ_ h=>h.elim⟩ (λ_ h=>h.elim) (.inr u) u K
 ·rw [List.getElem?_map,y]at j
  simp at j;subst j;exact⟨rfl,V x (Uc y)⟩
 ·rw [uZ]
  simpa [j9]using ht
theorem E' {k:IntKind}{S:UO}{w:World}{a:UP}{len cap:Nat}{xs:List Int}(h:(g4 (j9 k)).rel S w [.slice a len cap] xs)(G:0<xs.length):
 ∃u,a=some u/\ ∀j v,(xs.map (Value.int k))[j]? =some v->w.cell? (u.add j)=some v:=by
 obtain⟨b,off,es,rfl, -, -, -, -⟩:=g4.at h 0 G;refine⟨_,rfl,λj v z=> ?_⟩;rw [List.getElem?_map]at z;obtain⟨x,V,rfl⟩:=vX.1 z;obtain⟨U,rfl⟩:=TI.1 V;obtain⟨Y,ab,es,y, -, -,⟨rfl, -⟩,K⟩:=g4.at h j U;simp at y;obtain⟨rfl,rfl⟩:=y;rw [Addr.add_lit];have:=K 0 _ rfl;simpa [j9]using this
theorem mN {k:IntKind}{S:UO}{w:World}{a:UP}{len cap:Nat}{xs:List Int}(h:(g4 (j9 k)).rel S w [.slice a len cap] xs): ∀x∈xs,(Lit.int k x).wf=true:=by
 intro x y;obtain⟨j,u,rfl⟩:=TH y;obtain⟨z,U,es,K, -, -,⟨rfl,hw⟩,G⟩:=g4.at h j u;exact hw
theorem m5 {P:Program} {w:World} {ops:Array Oper} {rest:List Oper} {o:Oper} {a:Act} {Q:Exit->Act->World->Prop} (hg:o.guard=none) (l c:Operand) {t:TypeId} (hop:o.op=Op.makeSlice t l c)
 {e:TypeId} {bytes:Nat} (hT:jj P t e 1 bytes) {kl kc:IntKind} {L C:Int} {n m:Nat} (hl:a.eval l= .int kl L) (hc:a.eval c= .int kc C) (hL:L=(n:Int)) (hC:C=(m:Int)) (hnm:n<=m)
 (b2:bytes*m<=281474976710656) (b3:m<=maxLen)
 (hK: ∀cur:List Value,cur.length=m-> ∀w',w'.heap[w.heap.size]? =some (.cells cur.toArray e (0,0))->BW w w'->w'.heap.size=w.heap.size+1->wpList P ops Q rest (a.put o.dst (.slice (some ⟨w.heap.size,0,none⟩) n m)) w'):
 wpList P ops Q (o::rest) a w:=by
 obtain⟨ht,hn,i,z,hi,hz,hsize,hby,hzs⟩:=hT;refine wpList_plain hg λK hK'=> ?_;subst hL hC;have h63:(m:Int)<=9223372036854775807:=by unfold maxLen at b3;omega
 have hb':(i.bytes:Int)*(m:Int)<=281474976710656:=by
  have h:((i.bytes*m:Nat):Int)<=281474976710656:=by rw [hby];omega
  rwa [Int.natCast_mul]at h
 have hr:=run_make (P:=P) w t e i z ht hi hz kl kc n m UN UN hb' h63;simp only [jJ,hsize,qP]at hr;unfold Oper.wp;simp [execOp,hop,hl,hc,hr,Result.andThen];refine hK' _ _ (hK (madeCells z.cells m).toList (by simp [size_madeCells]) _ ?_ (hd (g' _ _) _) US);have:=gY w (.cells (madeCells z.cells m) e);simpa using this
theorem n8 {P:Program} {w:World} {ops:Array Oper} {rest:List Oper} {o:Oper} {a:Act} {Q:Exit->Act->World->Prop} (hg:o.guard=none) (l c:Operand) {t:TypeId} (hop:o.op=Op.makeSlice t l c)
 {e:TypeId} {bytes:Nat} (hT:jj P t e 1 bytes) {z:Value} (hzz:(P.info? e).map (·.zero)=some (some z)) {kl kc:IntKind} {L C:Int} {n:Nat} (hl:a.eval l= .int kl L) (hc:a.eval c= .int kc C) (hL:L=(n:Int)) (hC:C=(n:Int))
 (b2:bytes*n<=281474976710656) (b3:n<=maxLen)
 (hK:wpList P ops Q rest (a.put o.dst (.slice (some ⟨w.heap.size,0,none⟩) n n)) (w.alloc (.cells (madeCells z.cells n).toList.toArray e))):
 wpList P ops Q (o::rest) a w:=by
 obtain⟨ht,hn,i,z',hi,hz,hsize,hby,hzs⟩:=hT;obtain rfl:z'=z:=by rw [hi]at hzz;simp only [Option.map_some,pd]at hzz;rw [hz]at hzz;exact jR hzz
 refine wpList_plain hg λK hK'=> ?_;subst hL hC;have h63:(n:Int)<=9223372036854775807:=by unfold maxLen at b3;omega
 have hb':(i.bytes:Int)*(n:Int)<=281474976710656:=by
  have h:((i.bytes*n:Nat):Int)<=281474976710656:=by rw [hby];omega
  rwa [Int.natCast_mul]at h
 have hr:=run_make (P:=P) w t e i z' ht hi hz kl kc n n UN (vS _) hb' h63;simp only [jJ,hsize,qP]at hr;unfold Oper.wp;simp [execOp,hop,hl,hc,hr,Result.andThen];exact hK' _ _ (by simpa using hK)
theorem kw {P:Program} {ops:Array Oper} {rest:List Oper} {o:Oper} {a:Act} {Q:Exit->Act->World->Prop} (ad:o.guard=none) (s x:Operand) {t:TypeId}
 (af:o.op= .call { callee:= .builtin .append,args:= #[s,x],argTypes:= #[t,t] }) {k:IntKind} {e:TypeId} {bytes:Nat} (U:jj P t e 1 bytes) {S:UO} {B:Nat} {w0 wr:World} {v u:Value} {xs ys:List Int}
 (ah:a.eval s=v) (aj:a.eval x=u)
 (V:Below B w0 wr) (y:B<=wr.heap.size) (z:Own (j9 k) B e (λx=>False\/B<=x) wr v xs) (ai:(g4 (j9 k)).rel S wr [u] ys)
 (G:xs.length+ys.length<=maxLen) (Y:(xs.length+ys.length)*bytes<=140737488355328)
 (K: ∀v' w',Own (j9 k) B e (λx=>False\/B<=x) w' v' (xs++ys)->Below B w0 w'->wpList P ops Q rest (a.put o.dst v') w'):
 wpList P ops Q (o::rest) a wr:=by
 refine iC (r:=j9 k) (base:=B) (F:=λx=>False\/B<=x) (S:=λ_=>False) (xs:=xs) (ys:=ys) ad s x af U ah aj z (Src.plain (Plain.int k) (Src.of_slice ai)) (λ_ _ h=>h.elim) (λ_ _ h=>h) G Y y λv' w' ag ae _=>K v' w' ?_ ?_
 ·refine ag.mono λj _ h=> ?_
  rcases h with h|h
  ·exact h
  ·exact .inr (iu y h)
 ·exact Kept.behind V ae y λj ak ab=>by
   have:=(z.lt ab).2.2;omega
theorem lN {P:Program} {ops:Array Oper} {rest:List Oper} {o:Oper} {a:Act} {Q:Exit->Act->World->Prop} (ae:o.guard=none) (s x:Operand) {t:TypeId}
 (ag:o.op= .call { callee:= .builtin .append,args:= #[s,x],argTypes:= #[t,t] }) {k:IntKind} {e:TypeId} {bytes:Nat} (V:jj P t e 1 bytes) {S:UO} {B:Nat} {w0 wr:World} {v u:Value} {xs ys:List Int}
 (ai:a.eval s=v) (ak:a.eval x=u)
 (Y:Below B w0 wr) (y:B<=wr.heap.size) (G:Own (j9 k) B e (λx=>False\/B<=x) wr v xs) (aj:(g4 (j9 k)).rel S wr [u] ys)
 (K:xs.length+ys.length<=maxLen) (ab:(xs.length+ys.length)*bytes<=140737488355328)
 (U: ∀v' w',Own (j9 k) B e (λx=>False\/B<=x) w' v' (xs++ys)->Below B w0 w'->Kept (λj=>v.ownBlock≠some j) wr w'->(v'.ownBlock=v.ownBlock\/v'.ownBlock=some wr.heap.size)->wpList P ops Q rest (a.put o.dst v') w'):
 wpList P ops Q (o::rest) a wr:=by
 refine iC (r:=j9 k) (base:=B) (F:=λx=>False\/B<=x) (S:=λ_=>False) (xs:=xs) (ys:=ys) ae s x ag V ai ak G (Src.plain (Plain.int k) (Src.of_slice aj)) (λ_ _ h=>h.elim) (λ_ _ h=>h) K ab y λv' w' ah z af=>U v' w' ?_ ?_ z af
 ·refine ah.mono λj _ h=> ?_
  rcases h with h|h
  ·exact h
  ·exact .inr (iu y h)
 ·exact Kept.behind Y z y λj al ad=>by
   have:=(G.lt ad).2.2;omega
theorem Own.pP {k:IntKind}{B:Nat}{e:TypeId}{F:UO}{w:World}{v:Value}{xs:List Int}(h:Own (j9 k) B e F w v xs)(i:Nat)(hi:i<xs.length):
 ∃g cap,v= .slice (some ⟨g,0,none⟩) xs.length cap/\xs.length<=cap/\cap<=maxLen/\g<w.heap.size/\B<=g/\w.cell? ⟨g,i,none⟩=some (.int k xs[i])/\w.frozen? ⟨g,i,none⟩=false/\
  ∀x,(Lit.int k x).wf=true->Own (j9 k) B e F (w.setCell ⟨g,i,none⟩ (.int k x)) v (xs.set i x)/\Kept (λj=>j≠g) w (w.setCell ⟨g,i,none⟩ (.int k x)):=by
 have Y:=h;obtain⟨S0,aj,ao,ar,ap,aq,ah⟩:=h;rcases ah.2 with⟨-,au⟩|⟨g,cap,cur,rfl,G,ag,h1,h2,ak,al⟩
 ·omega
 ·obtain⟨-, -,af,ab,S,ad,z⟩:=Y.row
  obtain⟨es,⟨rfl, -⟩,ae⟩:=z.at i hi;have K:=ae 0 _ rfl;have U:(j9 k).n=1:=rfl;rw [U,qP,xE]at K;refine⟨g,cap,rfl,h1,h2,z.lt,G,K,(a' ag).2 i,λx ai=> ?_⟩;obtain⟨y,u⟩:=z.store i hi (es:= [.int k x]) (x:=x) ⟨rfl,ai⟩;rw [U,qP]at y u;have V:w.setCells g i [Value.int k x]=w.setCell ⟨g,i,none⟩ (.int k x):=rfl;rw [V]at y u;have:=y.own (F:=F) ad ab G af;rw [TG]at this;exact⟨this,u⟩
structure lO (w0:World)(B:Nat)(l:List Value)(w':World):Prop where
 mx:BW w0 w'
 Lh: ∀o,w'.cell? ⟨B,o,none⟩=(List.toArray l)[o]?
section
variable {w0 w1 w2:World} {B:Nat} {l:List Value} {t:TypeId}
theorem lO.of (h:w0.heap[B]? =some (.cells (List.toArray l) t (0,0)))(j:BW w0 w1):lO w0 B l w1:=⟨j,(a' (b' j h)).1⟩
theorem lO.drew (h:lO w0 B l w1):lO w0 B l w1.drew:=⟨h.mx.drew,h.Lh⟩
theorem lO.range (h:lO w0 B l w1):w1.rangeAt B 0 l:=λj v u=>by rw [nC,h.Lh];simpa using u
end
structure My (w0:World)(w':World):Prop where
 mx:BW w0 w'
structure nk (w0:World)(B1 o1:Nat)(l1:List Value)(B2 o2:Nat)(l2:List Value)(w':World):Prop where
 mx:BW w0 w'
 r1:w'.rangeAt B1 o1 l1
 r2:w'.rangeAt B2 o2 l2
theorem mj {w w':World}{B o:Nat}{l:List Value}(h:w.rangeAt B o l)(u:BW w w'):w'.rangeAt B o l:=λj v y=>(Kept.of_below (S:=λ_=>True) u).cell trivial (h j v y)
theorem nk.of {w0 w1:World}{B1 o1 B2 o2:Nat}{l1 l2:List Value}(h1:w0.rangeAt B1 o1 l1)(h2:w0.rangeAt B2 o2 l2)(j:BW w0 w1):nk w0 B1 o1 l1 B2 o2 l2 w1:=⟨j,mj h1 j,mj h2 j⟩
theorem Mz {w:World}{b o:Nat}{v0 v1 v2 y z G:Value}(c0:w.cell? ⟨b,o,none⟩=some v0)(c1:w.cell? ⟨b,o+1,none⟩=some v1)(c2:w.cell? ⟨b,o+2,none⟩=some v2)(K:w.cell? ⟨b,o+3,none⟩=some y)(U:w.cell? ⟨b,o+4,none⟩=some z)(V:w.cell? ⟨b,o+5,none⟩=some G):w.rangeAt b o [v0,v1,v2,y,z,G]:=λj v u=>by
 match j with
 |0=>simp at u;subst u;exact c0
 |1=>simp at u;subst u;exact c1
 |2=>simp at u;subst u;exact c2
 |3=>simp at u;subst u;exact K
 |4=>simp at u;subst u;exact U
 |5=>simp at u;subst u;exact V
 |j+6=>simp at u
section
variable {P:Program} {md:Region.Mode} {ops:Array Oper} {Q:Exit->Act->World->Prop} {S:World->Prop}
theorem xp (i:Nat) {u:Oper} {v:Value} {fuel:Nat} {listed:Array Bool} {a:Act} {w:World} (hi:ops[i]? =some u) (hy:YieldsIf P ops S u v a)
 (h:wpAnyH P md ops Q S fuel (listed.setIfInBounds i true) (a.put u.dst v) w) (z:S w:=by assumption)
 (j:(Region.noSelect ops&&(Region.free md ops listed i&&(Region.ready md ops listed).contains i))=true:=by as_aux_lemma=>kernel_rfl)
 (y: ∀c a w,Q (.panic c) (a.put u.dst v) w->Q (.panic c) a w:=by exact λ_ _ _ h=>h):wpAnyH P md ops Q S (fuel+1) listed a w:=by
 rw [kg,kg]at j;exact wpAnyH_take hi j.1 j.2.1 j.2.2 y hy z h
theorem Gu (i:Nat) {j:Oper} {v:Value} {fuel:Nat} {listed:Array Bool} {a:Act} {w:World} (hi:ops[i]? =some j) (hy: ∀w,S w->(execOp a.eval j).run P w= .ok (.value v) w)
 (h:wpAnyH P md ops Q S fuel (listed.setIfInBounds i true) (a.put j.dst v) w) (z:S w:=by assumption) (hw:Region.wanted j (yielded ops a.tmps)=true:=by rfl)
 (u:(Region.noSelect ops&&(Region.free md ops listed i&&(Region.ready md ops listed).contains i))=true:=by as_aux_lemma=>kernel_rfl)
 (y: ∀c a w,Q (.panic c) (a.put j.dst v) w->Q (.panic c) a w:=by exact λ_ _ _ h=>h):wpAnyH P md ops Q S (fuel+1) listed a w:=by
 rw [kg,kg]at u;exact wpAnyH_take hi u.1 u.2.1 u.2.2 y (.inl ⟨hw,hy⟩) z h
theorem kL (i:Nat) {j:Oper} {v:Value} {fuel:Nat} {listed:Array Bool} {a:Act} {w:World}
 (h:wpAnyH P md ops Q S fuel (listed.setIfInBounds i true) (a.put j.dst v) w) (hi:ops[i]? =some j:=by rfl) (hy: ∀w,S w->(execOp a.eval j).run P w= .ok (.value v) w:=by intro K G;go_simp;all_goals with_reducible rfl)
 (z:S w:=by assumption) (hw:Region.wanted j (yielded ops a.tmps)=true:=by rfl)
 (u:(Region.noSelect ops&&(Region.free md ops listed i&&(Region.ready md ops listed).contains i))=true:=by as_aux_lemma=>kernel_rfl)
 (y: ∀c a w,Q (.panic c) (a.put j.dst v) w->Q (.panic c) a w:=by exact λ_ _ _ h=>h):wpAnyH P md ops Q S (fuel+1) listed a w:=by
 rw [kg,kg]at u;exact wpAnyH_take hi u.1 u.2.1 u.2.2 y (.inl ⟨hw,hy⟩) z h
theorem l8 (i:Nat){o:Oper}{fuel:Nat}{listed:Array Bool}{a:Act}{w:World}(u:ops[i]? =some o)(h:(∀j:Act->World->Prop,Shut (∀a w,S w->(S w->wpAnyH P md ops Q S fuel (listed.setIfInBounds i true) a w)->j a w)->if Region.wanted o (yielded ops a.tmps)=true then Oper.wp P o a w j Q else j (a.put o.dst undef) w))(hr:Region.ready md ops listed= [i]:=by as_aux_lemma=>kernel_rfl):wpAnyH P md ops Q S (fuel+1) listed a w:=
 wpAnyH_ready hr (by simp) (vV u h AllReadyH.nil)
theorem kt (i j:Nat){o o2:Oper}{fuel:Nat}{listed:Array Bool}{a:Act}{w:World}(y:ops[i]? =some o)(z:ops[j]? =some o2)(h:(∀u:Act->World->Prop,Shut (∀a w,S w->(S w->wpAnyH P md ops Q S fuel (listed.setIfInBounds i true) a w)->u a w)->if Region.wanted o (yielded ops a.tmps)=true then Oper.wp P o a w u Q else u (a.put o.dst undef) w))(h2:(∀u:Act->World->Prop,Shut (∀a w,S w->(S w->wpAnyH P md ops Q S fuel (listed.setIfInBounds j true) a w)->u a w)->if Region.wanted o2 (yielded ops a.tmps)=true then Oper.wp P o2 a w u Q else u (a.put o2.dst undef) w))(hr:Region.ready md ops listed= [i,j]:=by as_aux_lemma=>kernel_rfl):wpAnyH P md ops Q S (fuel+1) listed a w:=
 wpAnyH_ready hr (by simp) (vV y h (vV z h2 AllReadyH.nil))
theorem Sj (i j k:Nat){o o2 o3:Oper}{fuel:Nat}{listed:Array Bool}{a:Act}{w:World}(z:ops[i]? =some o)(G:ops[j]? =some o2)(K:ops[k]? =some o3)(h:(∀u:Act->World->Prop,Shut (∀a w,S w->(S w->wpAnyH P md ops Q S fuel (listed.setIfInBounds i true) a w)->u a w)->if Region.wanted o (yielded ops a.tmps)=true then Oper.wp P o a w u Q else u (a.put o.dst undef) w))(h2:(∀u:Act->World->Prop,Shut (∀a w,S w->(S w->wpAnyH P md ops Q S fuel (listed.setIfInBounds j true) a w)->u a w)->if Region.wanted o2 (yielded ops a.tmps)=true then Oper.wp P o2 a w u Q else u (a.put o2.dst undef) w))(y:(∀u:Act->World->Prop,Shut (∀a w,S w->(S w->wpAnyH P md ops Q S fuel (listed.setIfInBounds k true) a w)->u a w)->if Region.wanted o3 (yielded ops a.tmps)=true then Oper.wp P o3 a w u Q else u (a.put o3.dst undef) w))(hr:Region.ready md ops listed= [i,j,k]:=by as_aux_lemma=>kernel_rfl):wpAnyH P md ops Q S (fuel+1) listed a w:=
 wpAnyH_ready hr (by simp) (vV z h (vV G h2 (vV K y AllReadyH.nil)))
end
end Go.Proofs.YtjdiofjjoefnhaaGreatDoor
