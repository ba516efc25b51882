/- What the library's texts and numbers read of the program's variables, out of what a row lists and of the world's shape. -/
import Derived.Test.YtphacfkcifpobaaGreatDoorM29
import Derived.LaidSub
import Derived.Lib.LaidTab
import Derived.Shelf.Vars
import Derived.Handed
set_option maxRecDepth 100000
namespace Go.Proofs.YtphacfkcifpobaaGreatDoor
open Go.ChangeShapes Go.WideShapes Go.ChangeAt Go.RowKit
theorem tab_of {laid : List (String × DataW Unit)} {W : World} (h : laidMetH Tryz.prog laid W) (e : ((laid.filter fun x => x.1 == "internal/strconv.uint64pow10").filter fun x => x.2.handleName?.isNone) = [("internal/strconv.uint64pow10", Lib.tabData .u64 Lib.pow10Tab)]) : TabAt W := by
 have h1 := (laidMetH_iff.1 (h.filter fun x => x.1 == "internal/strconv.uint64pow10")).1
 rw [e]at h1;exact Lib.tabIs_of_head (g:=5) (t:=365) (e:=24) (n:=20) (by kernel_rfl) (by kernel_rfl) (by kernel_rfl) (by kernel_rfl) (by kernel_rfl) (by kernel_rfl) h1
theorem iface_of {P:Program} {w:World} {base fuel:Nat} {sp:Nat→Bool} {t:TypeId} {ms:Array (String×TypeId)} {cs:List Value} {tn:String} {d:DataW Unit} {p:List MemPlace} (ht:P.underlying t=some (.interface ms))
   (h:DataW.trod (fun _=>()) P w base sp false fuel t cs=some (.iface tn d,p)): ∃u v,cs= [.iface u v]:=by
 cases fuel with
 |zero=>simp [DataW.trod]at h
 |succ m=>
  simp only [DataW.trod,ht]at h;split at h
  all_goals first|exact⟨_,_,rfl⟩|(simp at h;done)|(cases h;done)|exact absurd ‹some (TypeDesc.interface ms)=some _› (by simp)
def oneIface (nm:String):List (String×DataW Unit)→Bool
 | [(n,.iface _ _)]=>n==nm
 |_=>false
theorem oneIface_eq {nm:String}: ∀ {l:List (String×DataW Unit)},oneIface nm l=true→ ∃tn d,l= [(nm,.iface tn d)]
 | [(n,.iface tn d)],h=>⟨tn,d,by rw [show n=nm from beq_iff_eq.1 h]⟩
theorem err_of {laid:List (String×DataW Unit)} {W:World} {nm:String} {g:Nat} (h:laidMetH Tryz.prog laid W) (hg:Tryz.prog.globalNamed nm=some g) (hty:(Tryz.prog.globals[g]?).map (·.type)=some 170)
   (e0:oneIface nm ((laid.filter fun x=>x.1==nm).filter fun x=>x.2.handleName?.isNone)=true): ∃tp p,W.var? Tryz.prog nm=some #[.iface tp p]:=by
 obtain⟨tn,d,e⟩:=oneIface_eq e0;have h1:=(laidMetH_iff.1 (h.filter fun x=>x.1==nm)).1;rw [e]at h1;obtain⟨ps,⟨g',t',cs,fuel,p,q,hg',ht',hvar,hd,_,_⟩,_⟩:=h1;obtain rfl:=Option.some.inj (hg.symm.trans hg');obtain rfl:=Option.some.inj (hty.symm.trans ht');obtain⟨u,v,hc⟩:=iface_of Tryz.underlying170 hd;have hcs:cs= #[.iface u v]:=by
   obtain⟨l⟩:=cs;have hl:l= [.iface u v]:=hc;rw [hl]
 exact⟨u,v,by rw [hvar,hcs]⟩
theorem max_of {W:World}(h:W.ShapedOpen Tryz.prog): ∃m,W.cell? ⟨0,0,none⟩=some (.int .i64 m):=
 cell_of_shapedOpen_int (zero:= #[.int .i64 0]) (t:=3) h (of_decide_eq_true (by kernel_rfl)) (by kernel_rfl) rfl (by kernel_rfl) (by kernel_rfl) Tryz.underlying3
theorem txt_of {laid:List (String×DataW Unit)} {W:World} (h:laidMetH Tryz.prog laid W) (hs:W.ShapedOpen Tryz.prog)
   (e1 : ((laid.filter fun x => x.1 == "internal/strconv.uint64pow10").filter fun x => x.2.handleName?.isNone) = [("internal/strconv.uint64pow10", Lib.tabData .u64 Lib.pow10Tab)])
   (e2 : oneIface "strconv.ErrSyntax" ((laid.filter fun x => x.1 == "strconv.ErrSyntax").filter fun x => x.2.handleName?.isNone) = true)
   (e3 : oneIface "strconv.ErrRange" ((laid.filter fun x => x.1 == "strconv.ErrRange").filter fun x => x.2.handleName?.isNone) = true) : TxtAt W :=
 ⟨tab_of h e1,max_of hs,err_of (g:=3) h (by kernel_rfl) (by kernel_rfl) e2,err_of (g:=4) h (by kernel_rfl) (by kernel_rfl) e3⟩
section
variable {H:Type} {enc:TypeId×Value→H}
theorem handed_and_shaped {a:Assume} {C:Checked} {os:Os} {f:FuncId} {fn:Func} {s:ChangeSpec} {conds:List PathCond} {apart fresh handsOn again:Bool} {X:World→Array Value→Prop}
   (hX: ∀(w w':World) (args:Array Value),w.heap=w'.heap→X w args→X w' args)
   (own:ownKnob C.prog.godebug=none) (started:os.Started) (noInit:C.prog.inits.idxOf? f=none) (hfn:C.prog.funcs[f]? =some fn)
   (witness: ∃(w:World) (tape:Tape) (i:Input),w.os=os∧(w.forCall tape i).Shaped C.prog∧i.vars= []∧Input.okWide C.prog (w.forCall tape i) .any w.heap.size f i∧
     ((s.pre enc C.prog fn conds apart (w.forCall tape i).memory i.args∧X (w.forCall tape i).memory i.args)∧sizedMet enc C.prog fn (OpenSpec.ofChange s) apart (w.forCall tape i).memory i.args)∧a.holds C.prog (lone (Frame.enter C.prog f i.args .normal) [] (w.forCall tape i)))
   (contract: ∀(W:World) (base:Nat) (args:Array Value) (ds gs:List (DataW H)) (before:List MemPlace),
     (∀(j:Nat) t v,fn.params[j]? =some t→args[j]? =some v→Value.okWide C.prog W .any base t v)→
     DataW.Whole enc C.prog fn.params.toList s.vars apart W args.toList ds gs before→
     X W args→W.ShapedOpen C.prog→
     Calls C.prog f args W fun e W'=> ∃v,e= .returned v∧s.post enc C.prog fn apart fresh handsOn again W args v W'):
   ReturnsInHanded a C os f .any (fun w args=>(s.pre enc C.prog fn conds apart w args∧X w args)∧sizedMet enc C.prog fn (OpenSpec.ofChange s) apart w args) (s.post enc C.prog fn apart fresh handsOn again):=by
 refine returnsInHanded_of_calls own started noInit witness ?_;intro w tape i _ hsh _ hok hpre _;obtain⟨_,_,_,fn',hfn',_,_,_,_,hval⟩:=hok;have e:fn'=fn:=Option.some.inj (hfn'.symm.trans hfn);subst e;obtain⟨⟨⟨ds,gs,before,hw,hc⟩,hx⟩,hz⟩:=hpre;have hw':=DataW.Whole.of_heap (w':=w.forCall tape i) (by rfl) hw;refine(contract (w.forCall tape i) w.heap.size i.args ds gs before hval hw' (hX _ _ _ (by rfl) hx) hsh).mono fun e W' ⟨v,he,hp⟩=> ?_;subst he;exact ChangeSpec.post_blind hp
end
end Go.Proofs.YtphacfkcifpobaaGreatDoor
