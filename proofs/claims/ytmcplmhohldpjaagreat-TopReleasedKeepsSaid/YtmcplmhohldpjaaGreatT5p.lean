/- Points of ranges, layers and bands. -/
import Derived.Test.YtmcplmhohldpjaaGreatT3x
namespace Go.AM.K
set_option linter.unusedVariables false
set_option linter.unusedSimpArgs false
variable {α:Type}
def Io (x m:Int):Int:=if Int.tmod x m < 0 then Int.tmod x m+m else Int.tmod x m
theorem LF {x m:Int}(h:0 < m):-m < Int.tmod x m/\Int.tmod x m < m:=by
 have e:(Int.tmod x m).natAbs=x.natAbs % m.natAbs:=Int.natAbs_tmod ..
 have:=Nat.mod_lt x.natAbs (show m.natAbs > 0 by omega)
 omega
theorem VC {x m:Int}(h:0 < m):0<=Io x m/\Io x m < m:=by
 have:=LF (x:=x) h
 unfold Io
 split <;> omega
theorem abE {x m:Int}(h:0 < m)(h2:m<=4611686018427387904){k:Int->Option α}:Di α x m k=k (Io x m):=by
 have:=LF (x:=x) h
 rw [Di,af,Xw,cO (bne_iff_ne.2 (by omega)),bg]
 unfold Io
 by_cases c:Int.tmod x m < 0
 ·rw [if_pos c,if_pos c,ak (by omega) (by omega)]
 ·rw [if_neg c,if_neg c]
def ptI (lo hi at_:Int):Int:=lo+Io at_ (hi - lo+1)
def rgI (lo hi:Int):Prop:=0<=lo/\lo<=hi/\hi<=1000000000
theorem PE {lo hi x:Int}(h:rgI lo hi):lo<=ptI lo hi x/\ptI lo hi x<=hi:=by
 unfold rgI at h
 have:=VC (x:=x) (m:=hi - lo+1) (by omega)
 unfold ptI
 omega
theorem VN {L:List L5}{i:Nat}(h:i < L.length){x:Option α}:ixK (L.map rL) (i:Int) 5 x=x:=by
 unfold ixK
 have:decide (0<=(i:Int)/\(i:Int) < ((L.map rL).length:Nat)/\(cv (L.map rL) (i:Int).toNat).length=5)=true:=by
  refine decide_eq_true ⟨by omega,by rw [List.length_map];omega,?_⟩
  rw [Int.toNat_natCast]
  unfold cv
  rw [List.getD_eq_getElem?_getD,List.getElem?_map,List.getElem?_eq_getElem h]
  rfl
 rw [this]
theorem t8 {L:List L5}{i:Nat}{l:L5}(h:L[i]?=some l):cv (L.map rL) i=rL l:=by
 unfold cv
 rw [List.getD_eq_getElem?_getD,List.getElem?_map,h];rfl
theorem air {L:List L5}{i:Nat}{l:L5}(h:L[i]?=some l){f:Int->Int->Option α}:ldK (L.map rL) i 2 [.int .i64,.int .i64] f=f l.2.2.1 l.2.2.2.1:=by
 have hl:=(List.getElem?_eq_some_iff.1 h).1
 unfold ldK
 rw [decide_eq_true (by rw [List.length_map];exact hl),t8 h]
 rfl
theorem asy {L:List L5}{i o:Nat}(h:i < L.length)(ho:o<=3){x:Option α}:stK (L.map rL) i o 2 x=x:=by
 unfold stK
 have:decide (i < (L.map rL).length/\o+2<=(cv (L.map rL) i).length)=true:=by
  refine decide_eq_true ⟨by rw [List.length_map];exact h,?_⟩
  rw [t8 (List.getElem?_eq_getElem h)]
  show o+2<=5
  omega
 rw [this]
theorem akn {L:List L5}{i:Nat}{l:L5}(h:L[i]?=some l){a b:Int}:List.set (L.map rL) i (splice (cv (L.map rL) i) 2 [DC.v (.int .i64 a),DC.v (.int .i64 b)])=(L.set i (l.1,l.2.1,a,b,l.2.2.2.2)).map rL:=by
 rw [t8 h,List.map_set];rfl
theorem ahd {ls:List L5}(h:lsE ls=0):∀ {i:Nat} {l:L5},ls[i]?=some l->rgI l.1 l.2.1/\rgI l.2.2.1 l.2.2.2.1:=by
 induction ls with
 | nil=>intro i l hl;simp at hl
 | cons x xs ih=>
  intro i l hl
  unfold lsE at h
  by_cases c:xq x=0
  ·rw [if_pos c] at h
   cases i with
   | zero=>
    simp only [List.getElem?_cons_zero,Option.some.injEq] at hl
    subst hl
    unfold xq at c
    by_cases c2:HZ x=true
    ·rw [if_pos c2] at c
     have hb:=of_decide_eq_true c2
     by_cases c3:x.2.1 < x.1
     ·rw [if_pos c3] at c;exact absurd c (by decide)
     ·rw [if_neg c3] at c
      by_cases c4:x.2.2.2.1 < x.2.2.1
      ·rw [if_pos c4] at c;exact absurd c (by decide)
      ·unfold rgI;omega
    ·rw [if_neg c2] at c;exact absurd c (by decide)
   | succ i=>exact ih h (by simpa using hl)
  ·rw [if_neg c] at h;exact absurd h c
theorem ajy {v:Vl}{rlo rhi lo hi:Int}(h:v.In rlo rhi)(h1:v.d*(lo*1048576)<=v.n*10000)(h2:v.n*10000<=v.d*(hi*1048576)):¬ rhi*10000 < lo*1048576/\¬ hi*1048576 < rlo*10000:=by
 obtain⟨v1,v2⟩:=h
 have hd:=v.h
 have e1:v.d*(rhi*10000)=v.d*rhi*10000:=by grind
 have e2:v.d*(rlo*10000)=v.d*rlo*10000:=by grind
 have a1:lo*1048576<=rhi*10000:=Int.le_of_mul_le_mul_left (a:=v.d) (by omega) hd
 have a2:rlo*10000<=hi*1048576:=Int.le_of_mul_le_mul_left (a:=v.d) (by omega) hd
 omega
def ptD (d:Dm)(w s:Int)(xs:List (Int × Int × Int))(oi ol:Int):Pt:=⟨d.ix,s,d.pol,w,xs,oi,ol⟩
def Gk (d:Dm)(w s:Int)(L:List L5)(oi ol:Int):Ask:=⟨d.ix,s,s,d.pol,w,w,L,oi,ol⟩
theorem O7 {d:Dm}{w s:Int}{L:List L5}{xs:List (Int × Int × Int)}{oi ol:Int}(h:KO L xs)(h0:(dg (Gk d w s L oi ol)).2=0) :
  (lF (ptD d w s xs oi ol) d.sh).In (kO d.sh (dg (Gk d w s L oi ol)).1).1 (kO d.sh (dg (Gk d w s L oi ol)).1).2/\cI (kO d.sh (dg (Gk d w s L oi ol)).1).1/\cI (kO d.sh (dg (Gk d w s L oi ol)).1).2:=by
 have hck:ckA (Gk d w s L oi ol)=0:=by
  by_cases c:ckA (Gk d w s L oi ol)=0
  ·exact c
  ·unfold dg at h0
   rw [if_neg c] at h0
   exact absurd h0 c
 have hA:jM (Gk d w s L oi ol) (ptD d w s xs oi ol):=⟨rfl,⟨Int.le_refl _,Int.le_refl _⟩,rfl,⟨Int.le_refl _,Int.le_refl _⟩,h,rfl,rfl,hck⟩
 exact⟨Vn (CX hA h0),ahB (IY _)⟩
theorem VK {ls:List L5}{oi ol:Int}:∀ (rest:List Dm) (a:Int) (i:Nat),(gF ls oi ol rest a i).1=2->a=2/\∀ d ∈ rest,vis d ls oi ol 5 d.pc=(none,false):=by
 intro rest
 induction rest with
 | nil=>intro a i h;exact⟨h,fun d hd=>by cases hd⟩
 | cons d rs ih=>
  intro a i h
  rw [gF] at h
  cases hv:(vis d ls oi ol 5 d.pc).1 with
  | some m=>rw [hv] at h;exact absurd h (show ¬ (0:Int)=2 by decide)
  | none=>
   rw [hv] at h
   simp only at h
   obtain⟨h1,h2⟩:=ih _ _ h
   by_cases c:(vis d ls oi ol 5 d.pc).2=true
   ·rw [if_pos c] at h1;exact absurd h1 (by decide)
   ·rw [if_neg c] at h1
    refine⟨h1,fun e he=>?_⟩
    rcases List.mem_cons.1 he with rfl | he
    ·exact Prod.ext hv (by simpa using c)
    ·exact h2 e he
theorem afM {ls:List L5}{oi ol:Int}:∀ (rest:List Dm) (a:Int) (i:Nat),a ≠ 0->(gF ls oi ol rest a i).1=0->∃ (j:Nat) (d:Dm),rest[j]?=some d/\(gF ls oi ol rest a i).2.1=((i+j:Nat):Int) /\
  (vis d ls oi ol 5 d.pc).1=some ((gF ls oi ol rest a i).2.2.1,(gF ls oi ol rest a i).2.2.2):=by
 intro rest
 induction rest with
 | nil=>intro a i ha h;exact absurd h ha
 | cons d rs ih=>
  intro a i ha h
  rw [gF] at h ⊢
  cases hv:(vis d ls oi ol 5 d.pc).1 with
  | some m=>
   simp only
   exact⟨0,d,rfl,rfl,hv⟩
  | none=>
   rw [hv] at h
   simp only at h ⊢
   have ha':(if (vis d ls oi ol 5 d.pc).2=true then (1:Int) else a) ≠ 0:=by
    by_cases c:(vis d ls oi ol 5 d.pc).2=true
    ·rw [if_pos c];decide
    ·rw [if_neg c];exact ha
   obtain⟨j,e,h1,h2,h3⟩:=ih _ (i+1) ha' h
   exact⟨j+1,e,by simpa using h1,by rw [h2];omega,h3⟩
theorem age {a b:Int}{x y:Option α}:cK (a != b) x y=if a=b then y else x:=by
 by_cases h:a=b
 ·rw [if_pos h,h,show (b != b)=false by simp];rfl
 ·rw [if_neg h,bne_iff_ne.2 h,aq]
theorem akF {ls:List L5}{x:Option α}:np [ls.map rL] x=x:=RB (enc:=rL) (fun _=>rfl)
end Go.AM.K
