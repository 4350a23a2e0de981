/- A frame for rows that list variables of the library's: the world's shape is handed on. -/
import Derived.Handed
import Derived.LaidLaws
import Derived.Lay
import Derived.MakeChecks
import Derived.Stop.LaidErr
import Derived.Lib.LaidTab
import Derived.Lib.ItoaNum
import Derived.Test.YtnhkllkecbmchaaGreatDoorKF1
namespace Go.AM
section
variable {H:Type}{enc:TypeId × Value->H}
theorem handed_shaped {a:Assume}{C:Checked}{os:Os}{f:FuncId}{fn:Func}{s:ChangeSpec}{conds:List PathCond}{apart fresh handsOn again:Bool}{X:World->Array Value->Prop}
  (hX:∀ (w w':World) (args:Array Value),w.heap=w'.heap->X w args->X w' args)
  (own:ownKnob C.prog.godebug=none) (started:os.Started) (noInit:C.prog.inits.idxOf? f=none) (hfn:C.prog.funcs[f]?=some fn)
  (witness:∃ (w:World) (tape:Tape) (i:Input),w.os=os/\(w.forCall tape i).Shaped C.prog/\i.vars=[]/\Input.okWide C.prog (w.forCall tape i) .any w.heap.size f i /\
   ((s.pre enc C.prog fn conds apart (w.forCall tape i).memory i.args/\X (w.forCall tape i).memory i.args)/\sizedMet enc C.prog fn (OpenSpec.ofChange s) apart (w.forCall tape i).memory i.args)/\a.holds C.prog (lone (Frame.enter C.prog f i.args .normal) [] (w.forCall tape i)))
  (contract:∀ (W:World) (base:Nat) (args:Array Value) (ds gs:List (DataW H)) (before:List MemPlace),
   (∀ (j:Nat) t v,fn.params[j]?=some t->args[j]?=some v->Value.okWide C.prog W .any base t v) ->
   DataW.Whole enc C.prog fn.params.toList s.vars apart W args.toList ds gs before ->
   conds.all (PathCond.test C.prog ⟨fn.params.toList,ds,s.plain.varTypes C.prog,gs⟩)=true ->
   X W args->W.ShapedOpen C.prog ->
   a.holds C.prog (lone (Frame.enter C.prog f args .normal) [] W) ->
   Calls C.prog f args W fun e W'=>∃ v,e=.returned v/\s.post enc C.prog fn apart fresh handsOn again W args v W') :
  ReturnsInHanded a C os f .any (fun w args=>(s.pre enc C.prog fn conds apart w args/\X w args)/\sizedMet enc C.prog fn (OpenSpec.ofChange s) apart w args) (s.post enc C.prog fn apart fresh handsOn again):=by
 refine returnsInHanded_of_calls own started noInit witness ?_
 intro w tape i _ hsh _ hok hpre hholds
 obtain⟨_,_,_,fn',hfn',_,_,_,_,hval⟩:=hok
 have e:fn'=fn:=Option.some.inj (hfn'.symm.trans hfn)
 subst e
 obtain⟨⟨⟨ds,gs,before,hw,hc⟩,hx⟩,_⟩:=hpre
 have hw':=DataW.Whole.of_heap (w':=w.forCall tape i) (by rfl) hw
 refine (contract (w.forCall tape i) w.heap.size i.args ds gs before hval hw' hc (hX _ _ _ (by rfl) hx) hsh hholds).mono fun e W' ⟨v,he,hp⟩=>?_
 subst he
 exact ChangeSpec.post_blind hp
end
variable {P:Program}{W:World}
theorem var_heap {n:String}{cs:Array Value}{b:Nat}(h:W.var? P n=some cs)(hb:P.globalNamed n=some b):∃ t fz,W.heap[b]?=some (.cells cs t fz):=by
 unfold World.var? at h
 simp only [hb,Option.bind_some] at h
 split at h
 ·rename_i c t fz hc
  simp only [Option.some.injEq] at h
  subst h
  exact⟨t,fz,hc⟩
 ·cases h
theorem laid_of (h1 : Lib.TabIs P W "internal/strconv.uint64pow10" .u64 Lib.pow10Tab)
  (h2 : ∀ b, P.globalNamed "internal/bytealg.MaxLen" = some b → ∃ m, W.cell? ⟨b, 0, none⟩ = some (.int .i64 m))
  (h3 : ∃ t p, W.var? P "strconv.ErrSyntax" = some #[.iface t p]) (h4 : ∃ t p, W.var? P "strconv.ErrRange" = some #[.iface t p]) : Laid P W := by
 intro n hn b hb
 simp only [layNames,List.mem_cons,List.not_mem_nil,or_false] at hn
 rcases hn with rfl | rfl | rfl | rfl
 ·obtain⟨t,fz,h⟩:=var_heap h1 hb
  exact⟨_,t,fz,h,by simp only [layOk,if_true];rfl⟩
 ·obtain⟨m,hm⟩:=h2 b hb
  unfold World.cell? at hm
  split at hm
  ·rename_i cs t fz hc
   exact⟨cs,t,fz,hc,by simpa [layOk] using ⟨m,hm⟩⟩
  ·cases hm
 ·obtain⟨t,p,h⟩:=h3
  obtain⟨u,fz,h⟩:=var_heap h hb
  exact⟨_,u,fz,h,by simp [layOk]⟩
 ·obtain⟨t,p,h⟩:=h4
  obtain⟨u,fz,h⟩:=var_heap h hb
  exact⟨_,u,fz,h,by simp [layOk]⟩
end Go.AM
