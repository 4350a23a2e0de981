/- The cosines of the parts of half a turn: their values. -/
import Derived.Test.YtnhkllkecbmchaaGreatDoorXC0
import Derived.Test.YtnhkllkecbmchaaGreatDoorXB2
namespace Go.AM
open Go.Proofs
set_option maxRecDepth 100000
def cosX (k:Nat):Int:=rdv (dir (2048*(k:Int))).1 64
def cosR (k:Nat):Int:=if k % 512=0 then 0 else 2
def cosP (k:Nat):Int × Int:=(cosX k - cosR k,cosX k+cosR k)
def cosRow (k:Nat):List Value:=[.int .i64 k,.agg #[.int .i64 (cosP k).1,.int .i64 (cosP k).2]]
def cosList:List (List Value):=(List.range' 0 1025).map cosRow
namespace K
noncomputable def E170q:EnvK:=EnvK.of [⟨241,nt241,[⟨pa241_0,Fn241_0 f241_0⟩]⟩,⟨242,nt242,[⟨pa242_0,Fn242_0 f242_0⟩]⟩] noSeq
theorem eo170q:E170q.Ok Tryz.prog:=EnvK.of_ok noSeq_ok ⟨⟨io241_0,trivial⟩,⟨io242_0,trivial⟩,trivial⟩
theorem cosX_bd (k:Nat):-1048577<=cosX k/\cosX k<=1048577:=by
 have h:=dir_bd (2048*(k:Int))
 have:=h.h1;have:=h.h2
 unfold cosX rdv
 omega
theorem rdv_bd {c:Int}(h1:-67108864<=c)(h2:c<=67108864):-1048577<=rdv c 64/\rdv c 64<=1048577:=by unfold rdv;omega
theorem unit_cos {α:Type}{k:Nat}(hk:k<=1024){kk:Nat->Nat->Int->Int->Option α}:f241_0 α (k:Int) 2048 kk=kk (FloatKind.nearest .f64 (cosX k)) (FloatKind.nearest .f64 (rdv (dir (2048*(k:Int))).2 64)) (cosR k) 0:=by
 have e1:uLo (k:Int) 2048=2048*(k:Int):=by unfold uLo;omega
 have e2:uHi (k:Int) 2048=2048*(k:Int):=by unfold uHi cdv;omega
 have e3:(2048*(k:Int)+2048*(k:Int)) / 2=2048*(k:Int):=by omega
 have eR:arcR (2048*(k:Int)) (2048*(k:Int))=cosR k:=by
  unfold arcR cosR
  rw [e3]
  by_cases h:k % 512=0
  ·rw [if_pos ⟨rfl,by omega⟩,if_pos h]
  ·rw [if_neg (fun h'=>h (by omega)),if_neg h,Int.sub_self];rfl
 have eX:arcX (2048*(k:Int)) (2048*(k:Int))=cosX k:=by unfold arcX cosX;rw [e3]
 have eY:arcY (2048*(k:Int)) (2048*(k:Int))=rdv (dir (2048*(k:Int))).2 64:=by unfold arcY;rw [e3]
 have hx:=cosX_bd k
 have hd:=dir_bd (2048*(k:Int))
 have hy:=rdv_bd hd.h3 hd.h4
 have hr:0<=cosR k/\cosR k<=2:=by unfold cosR;split <;> omega
 rw [f241_eq,if_pos ⟨⟨by omega,by omega⟩,by decide,by decide⟩,e1,e2,f296_eq (by omega) (by omega) (by omega),eR,eX,eY,if_pos]
 unfold okB
 exact decide_eq_true ⟨⟨by omega,by omega⟩,⟨by omega,by omega⟩,by omega,by omega⟩
noncomputable abbrev Eg (v:Tf241_0)(u:Tf242_0):EnvK:=EnvK.of [⟨241,nt241,[⟨pa241_0,Fn241_0 v⟩]⟩,⟨242,nt242,[⟨pa242_0,Fn242_0 u⟩]⟩] noSeq
theorem g126 (v:Tf241_0)(u:Tf242_0){k:Int}:(Eg v u).env.call 241 [(false,[.v (.int .i64 k)]),(false,[.v (.int .i64 2048)])]=v (List RV) k 2048 (fun x1 x2 x3 x4=>some [(true,[.d (.v (.complex .f64 x1 x2)),.d (.v (.int .i64 x3))]),(false,[.d (.v (.int .i64 x4))])]):=by kernel_rfl
theorem g127 (v:Tf241_0)(u:Tf242_0){a b:Nat}{c:Int} :
  (Eg v u).env.call 242 [(true,[.v (.complex .f64 a b),.v (.int .i64 c)])]=u (List RV) a b c (fun lo hi x y e=>some [(true,[.d (.v (.int .i64 lo)),.d (.v (.int .i64 hi)),.d (.v (.int .i64 x)),.d (.v (.int .i64 y))]),(false,[.d (.v (.int .i64 e))])]):=by kernel_rfl
theorem e126 {k:Nat}{a b:Nat}{c:Int}(h:∀ kk:Nat->Nat->Int->Int->Option (List RV),f241_0 (List RV) (k:Int) 2048 kk=kk a b c 0):E170q.env.call 241 [(false,[.v (.int .i64 k)]),(false,[.v (.int .i64 2048)])]=some [(true,[.d (.v (.complex .f64 a b)),.d (.v (.int .i64 c))]),(false,[.d (.v (.int .i64 0))])]:=
 (g126 f241_0 f242_0).trans (h _)
theorem e127 {a b:Nat}{c lo hi x y:Int}(h:∀ kk:Int->Int->Int->Int->Int->Option (List RV),f242_0 (List RV) a b c kk=kk lo hi x y 0) :
  E170q.env.call 242 [(true,[.v (.complex .f64 a b),.v (.int .i64 c)])]=some [(true,[.d (.v (.int .i64 lo)),.d (.v (.int .i64 hi)),.d (.v (.int .i64 x)),.d (.v (.int .i64 y))]),(false,[.d (.v (.int .i64 0))])]:=
 (g127 f241_0 f242_0).trans (h _)
theorem cos_go_step {E:Env}{k:Nat}{r:List Nat}{a b:Nat}{c e lo hi x y f:Int}{out:List (List Value)}(h1:E.call 241 [(false,[.v (.int .i64 k)]),(false,[.v (.int .i64 2048)])]=some [(true,[.d (.v (.complex .f64 a b)),.d (.v (.int .i64 c))]),(false,[.d (.v (.int .i64 e))])])
  (h2:E.call 242 [(true,[.v (.complex .f64 a b),.v (.int .i64 c)])]=some [(true,[.d (.v (.int .i64 lo)),.d (.v (.int .i64 hi)),.d (.v (.int .i64 x)),.d (.v (.int .i64 y))]),(false,[.d (.v (.int .i64 f))])]) (h3:cosGo E r=some out) :
  cosGo E (k::r)=some ([.int .i64 k,.agg #[.int .i64 lo,.int .i64 hi]]::out):=by
 simp only [cosGo,h1,h2,h3]
theorem cos_go:∀ (m k:Nat),k+m<=1025->cosGo E170q.env (List.range' k m)=some ((List.range' k m).map cosRow)
 | 0,k,_=>rfl
 | m+1,k,h=>by
  have hx:=cosX_bd k
  have hd:=dir_bd (2048*(k:Int))
  have hy:=rdv_bd hd.h3 hd.h4
  have hr:0<=cosR k/\cosR k<=2:=by unfold cosR;split <;> omega
  have h3:cosRow k=[.int .i64 k,.agg #[.int .i64 (cosX k - cosR k),.int .i64 (cosX k+cosR k)]]:=rfl
  rw [List.range'_succ,List.map_cons,h3]
  exact cos_go_step (e126 fun kk=>unit_cos (by omega)) (e127 fun kk=>f242_num ⟨by omega,by omega⟩ ⟨by omega,by omega⟩ ⟨by omega,by omega⟩) (cos_go m (k+1) (by omega))
theorem cos_list:cosSq E170q.env=some cosList:=cos_go 1025 0 (by decide)
theorem cos_seq:IterOk Tryz.prog 170 [] cosList/\Bodied Tryz.prog 170:=cos_ok _ (fun f=>by rfl) (fun f=>by rfl) eo170q.ok _ cos_list
abbrev Tq170:Type:=Option (List (List Value))
def pq170:PT (List DC):=PT.ofL []
def q170:Option (List (List Value)):=some cosList
theorem sqok170:SeqOk Tryz.prog ⟨170,pq170,q170⟩:=fun caps xs h=>by
 match caps,h with
 | [],h=>
  have:xs=cosList:=by
   have h':some (some cosList)=some (some xs):=h
   simpa using h'.symm
  subst this
  exact cos_seq
end K
end Go.AM
