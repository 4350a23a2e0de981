/- Balls: arcs, fading, quotients, roots. -/
import Derived.Test.YtmcplmhohldpjaaGreatYWa
namespace Go.AM.K
set_option linter.unusedVariables false
set_option linter.unusedSimpArgs false
variable {α:Type}
def ckE (lo hi least:Int):Int:=
 if (least<=lo/\lo<=1099511627776)/\¬ 1099511627776 < hi/\¬ (least < 0/\hi < least) then (if hi < lo then 10 else 0) else 2
theorem QB {lo hi least:Int}{k:Int->Option α}:v4 α lo hi least k=k (ckE lo hi least):=by
 simp only [v4,af,NN,ta,af,C8,Mb.f146_eq]
 unfold ckE
 by_cases h1:least<=lo/\lo<=1099511627776
 ·rw [decide_eq_true h1,Bool.not_true,am]
  by_cases h2:1099511627776 < hi
  ·rw [decide_eq_true h2,aq,aq,if_neg (fun h=>h.2.1 h2)]
  ·rw [decide_eq_false h2,am]
   by_cases h3:least < 0
   ·rw [decide_eq_true h3,aq]
    by_cases h4:hi < least
    ·rw [decide_eq_true h4,aq,if_neg (fun h=>h.2.2 ⟨h3,h4⟩)]
    ·rw [decide_eq_false h4,am,if_pos ⟨h1,h2,fun h=>h4 h.2⟩,bg]
     split <;> rfl
   ·rw [decide_eq_false h3,am,am,if_pos ⟨h1,h2,fun h=>h3 h.1⟩,bg]
    split <;> rfl
 ·rw [decide_eq_false h1,Bool.not_false,aq,aq,if_neg (fun h=>h1 h.1)]
theorem aab {lo hi least:Int}(h:ckE lo hi least=0):(least<=lo/\lo<=1099511627776)/\hi<=1099511627776/\lo<=hi:=by
 unfold ckE at h
 split at h
 ·rename_i g
  split at h
  ·cases h
  ·omega
 ·cases h
def IE (lo hi:Int):Bl × Int:=
 if ckE lo hi (-1099511627776)=0 then qp (Mb.arcX lo hi,Mb.arcY lo hi,Mb.arcR lo hi) else (Bl0,ckE lo hi (-1099511627776))
theorem acN {lo hi:Int}{k:Nat->Nat->Int->Int->Option α}:vH α lo hi k=KB k (IE lo hi):=by
 simp only [vH,af,M8,QB]
 unfold IE
 by_cases h:ckE lo hi (-1099511627776)=0
 ·obtain⟨g1,g2,g3⟩:=aab h
  rw [h,if_pos rfl,show ((0:Int) != 0)=false from rfl,am,Mb.f197_eq (by omega) (by omega) g3]
  rw [Z2]
  unfold qp
  by_cases ho:okS (Mb.arcX lo hi,Mb.arcY lo hi,Mb.arcR lo hi)=true
  ·rw [if_pos ho,dif_pos ho];rfl
  ·rw [if_neg ho,dif_neg ho];exact KB0
 ·rw [if_neg h,show (ckE lo hi (-1099511627776) != 0)=true from bne_iff_ne.2 h,aq];exact KB0
def flr (n d:Int):Int:=if Int.tmod n d < 0 then w64 (w64 (Int.tdiv n d) - 1) else w64 (Int.tdiv n d)
def cel (n d:Int):Int:=w64 (0 - flr (w64 (0 - n)) d)
theorem EP {n d:Int}(hd:d ≠ 0){k:Int->Option α}:jq α n d k=k (flr n d):=by
 simp only [jq,af,Kk]
 have g:(d != 0)=true:=bne_iff_ne.2 hd
 rw [cO g,cO g,bg]
 unfold flr
 split <;> rfl
theorem g9 {n d:Int}(hd:d ≠ 0){k:Int->Option α}:dS α n d k=k (cel n d):=by
 simp only [dS,af,JZ,EP hd]
 rfl
def hlv (n:Int):Nat->Nat->Nat
 | 0,k=>k
 | m+1,k=>if 1048576*2 ^ k < n then hlv n m (k+1) else k
def gp (n:Int):Nat:=hlv n 42 0
theorem aj3 {n:Int}:∀ (m k:Nat),k+m<=42->hlv n m k<=42:=by
 intro m
 induction m with
 | zero=>intro k h;exact h
 | succ m ih=>
  intro k h
  unfold hlv
  split
  ·exact ih _ (by omega)
  ·omega
theorem yB (n:Int):gp n<=42:=aj3 42 0 (by decide)
theorem pw {k:Nat}(h:k<=42):w64 (1048576*2 ^ (min (Int.toNat (k:Int)) 64))=1048576*2 ^ k/\w64 (1*2 ^ (min (Int.toNat (k:Int)) 64))=2 ^ k/\(1:Int)<=2 ^ k/\(2:Int) ^ k<=4398046511104:=by
 rw [Int.toNat_natCast,Nat.min_eq_left (by omega)]
 have h1:(1:Int)<=2 ^ k:=by
  have:(0:Int) < 2 ^ k:=Int.pow_pos (by decide)
  omega
 have h2:(2:Int) ^ k<=4398046511104:=by
  have:(2:Nat) ^ k<=2 ^ 42:=Nat.pow_le_pow_right (by decide) h
  have e:(2:Nat) ^ 42=4398046511104:=rfl
  rw [e] at this
  rw [show (2:Int) ^ k=((2 ^ k:Nat):Int) by push_cast;rfl]
  generalize 2 ^ k=z at *
  omega
 obtain⟨z,hz⟩:∃ z,z=(2:Int) ^ k:=⟨_,rfl⟩
 rw [<- hz] at h1 h2 ⊢
 exact⟨ak (by omega) (by omega),by rw [Int.one_mul];exact ak (by omega) (by omega),h1,h2⟩
theorem agZ {n:Int}(hn:n<=4611686018427387904){k1:Int->Bool->Option α}{y:Int->Option α}(hk:∀ a b,k1 a b=y a) :
  ∀ (m k f:Nat),k+m=42->m < f->lG α n k1 f (k:Int)=y (hlv n m k:Int):=by
 intro m
 induction m with
 | zero=>
  intro k f h hf
  obtain⟨f,rfl⟩:∃ f',f=f'+1:=⟨f - 1,by omega⟩
  rw [lG]
  simp only [nj]
  obtain⟨p1,_⟩:=pw (k:=k) (by omega)
  have:k=42:=by omega
  subst this
  rw [cO (decide_eq_true (by omega)),p1,bg,if_neg (by
   rw [show (2:Int) ^ 42=4398046511104 from rfl];omega),hk]
  rfl
 | succ m ih=>
  intro k f h hf
  obtain⟨f,rfl⟩:∃ f',f=f'+1:=⟨f - 1,by omega⟩
  rw [lG]
  simp only [nj]
  obtain⟨p1,_⟩:=pw (k:=k) (by omega)
  rw [cO (decide_eq_true (by omega)),p1,bg]
  unfold hlv
  by_cases c:1048576*2 ^ k < n
  ·rw [if_pos c,if_pos c,ak (by omega) (by omega)]
   exact ih (k+1) f (by omega) (by omega)
  ·rw [if_neg c,if_neg c,hk]
theorem Ll {n:Int}(hn:n<=4611686018427387904){k:Int->Option α}:vd α n k=k (gp n:Int):=by
 have hf:42 < aN:=by have:=cS;omega
 rw [vd,af,QJ,so,af,DW]
 exact agZ (y:=k) hn (fun _ _=>rfl) 42 0 aN (by decide) hf
def itr (g:Int->Int):Nat->Int->Int
 | 0,f=>f
 | m+1,f=>itr g m (g f)
def Cd (p:Int):Int:=
 let x:=cel (w64 ((w64 (256*p))*62831854)) 10000000
 let u:=cel x (2 ^ gp x)
 itr (fun f=>w64 (Int.tdiv (w64 (f*f)) 1073741824)) (gp x) (w64 ((w64 ((w64 (1073741824 - u))+(w64 (Int.tdiv (w64 (u*u)) 2147483648)))) - cel (w64 ((w64 (u*u))*u)) 6917529027641081856))
def AT (p:Int):Int:=
 let x:=w64 (Int.tdiv (w64 ((w64 (256*p))*62831853)) 10000000)
 let u:=x / 2 ^ gp x
 itr (fun f=>cel (w64 (f*f)) 1073741824) (gp x) (w64 ((w64 (1073741824 - u))+cel (w64 (u*u)) 2147483648))
theorem aek {K:Nat}(hK:K<=42){k1:Int->Int->Bool->Option α}{y:Int->Option α}(hk:∀ a b c,k1 a b c=y a):∀ (m i n:Nat) (f:Int),i+m=K->m < n ->
  lB α (K:Int) k1 n f (i:Int)=y (itr (fun f=>w64 (Int.tdiv (w64 (f*f)) 1073741824)) m f):=by
 intro m
 induction m with
 | zero=>
  intro i n f h hn
  obtain⟨n,rfl⟩:∃ n',n=n'+1:=⟨n - 1,by omega⟩
  rw [lB]
  simp only [nr]
  rw [bg,if_neg (by omega),hk];rfl
 | succ m ih=>
  intro i n f h hn
  obtain⟨n,rfl⟩:∃ n',n=n'+1:=⟨n - 1,by omega⟩
  rw [lB]
  simp only [nr]
  rw [bg,if_pos (by omega),ak (n:=(i:Int)+1) (by omega) (by omega)]
  exact ih (i+1) n _ (by omega) (by omega)
theorem af3 {K:Nat}(hK:K<=42){k1:Int->Int->Bool->Option α}{y:Int->Option α}(hk:∀ a b c,k1 a b c=y a):∀ (m i n:Nat) (f:Int),i+m=K->m < n ->
  lD α (K:Int) k1 n f (i:Int)=y (itr (fun f=>cel (w64 (f*f)) 1073741824) m f):=by
 intro m
 induction m with
 | zero=>
  intro i n f h hn
  obtain⟨n,rfl⟩:∃ n',n=n'+1:=⟨n - 1,by omega⟩
  rw [lD]
  simp only [oV]
  rw [bg,if_neg (by omega),hk];rfl
 | succ m ih=>
  intro i n f h hn
  obtain⟨n,rfl⟩:∃ n',n=n'+1:=⟨n - 1,by omega⟩
  rw [lD]
  simp only [oV]
  rw [bg,if_pos (by omega),g9 (by decide),ak (n:=(i:Int)+1) (by omega) (by omega)]
  exact ih (i+1) n _ (by omega) (by omega)
theorem kR {n d:Int}(hd:0 < d)(hd2:d<=9223372036854775807)(hn:-9223372036854775807<=n)(hn2:n<=9223372036854775807):cel n d=cdv n d:=by
 have h1:=g9 (n:=n) (d:=d) (by omega) (k:=some)
 rw [Mb.f89_eq hd hd2 hn hn2] at h1
 exact (Option.some.inj h1).symm
theorem anL {p:Int}(h1:0<=p)(h2:p<=16777216):cel (w64 ((w64 (256*p))*62831854)) 10000000<=4611686018427387904:=by
 rw [ak (n:=256*p) (by omega) (by omega),ak (by omega) (by omega),kR (by decide) (by decide) (by omega) (by omega)]
 unfold cdv
 omega
theorem aoy {p:Int}(h1:0<=p)(h2:p<=16777216):w64 (Int.tdiv (w64 ((w64 (256*p))*62831853)) 10000000)<=4611686018427387904:=by
 rw [ak (n:=256*p) (by omega) (by omega),ak (n:=256*p*62831853) (by omega) (by omega),Int.tdiv_eq_ediv_of_nonneg (by omega),ak (by omega) (by omega)]
 omega
theorem LH {p:Int}(hp1:0<=p)(hp2:p<=16777216){k:Int->Option α}:Ap α p k=k (Cd p):=by
 simp only [Ap,af,NK]
 rw [g9 (by decide),Ll (anL hp1 hp2)]
 have hb:=yB (cel (w64 ((w64 (256*p))*62831854)) 10000000)
 obtain⟨_,p2,p3,_⟩:=pw hb
 rw [cO (decide_eq_true (by omega)),p2,g9 (by omega),g9 (by decide)]
 have hf:gp (cel (w64 ((w64 (256*p))*62831854)) 10000000) < aN:=by have:=cS;omega
 rw [rG,af,Dy]
 exact aek (y:=k) hb (fun _ _ _=>rfl) _ 0 aN _ (by omega) hf
theorem PS {p:Int}(hp1:0<=p)(hp2:p<=16777216){k:Int->Option α}:wo α p k=k (AT p):=by
 simp only [wo,af,MA]
 rw [Ll (aoy hp1 hp2)]
 have hb:=yB (w64 (Int.tdiv (w64 ((w64 (256*p))*62831853)) 10000000))
 rw [cO (decide_eq_true (by omega)),Int.toNat_natCast,Nat.min_eq_left (by omega),xi,g9 (by decide)]
 have hf:gp (w64 (Int.tdiv (w64 ((w64 (256*p))*62831853)) 10000000)) < aN:=by have:=cS;omega
 rw [rS,af,Ee]
 exact af3 (y:=k) hb (fun _ _ _=>rfl) _ 0 aN _ (by omega) hf
def mW (lo hi:Int):Int × Int × Int:=
 if ckE lo hi 0=0 then
  (if hi<=16777216 then (if flr (Cd hi) 1024 > 0 then flr (Cd hi) 1024 else 0) else 0,
   if lo<=16777216 then (if cel (AT lo) 1024 < 1048576 then cel (AT lo) 1024 else 1048576) else 1,0)
 else (0,0,ckE lo hi 0)
theorem agl {lo hi:Int}{k:Int->Int->Int->Option α}:rg α lo hi k=k (mW lo hi).1 (mW lo hi).2.1 (mW lo hi).2.2:=by
 simp only [rg,af,Rv,uI,af,DF,QB]
 unfold mW
 by_cases h:ckE lo hi 0=0
 ·obtain⟨g1,g2,g3⟩:=aab h
  rw [if_pos h,h,show ((0:Int) != 0)=false from rfl,am]
  by_cases h1:hi<=16777216 <;> by_cases h2:lo<=16777216
  ·rw [decide_eq_true h1,aq,LH (by omega) h1,EP (by decide),decide_eq_true h2,aq,PS g1.1 h2,g9 (by decide),if_pos h1,if_pos h2]
  ·rw [decide_eq_true h1,aq,LH (by omega) h1,EP (by decide),decide_eq_false h2,am,if_pos h1,if_neg h2]
  ·rw [decide_eq_false h1,am,decide_eq_true h2,aq,PS g1.1 h2,g9 (by decide),if_neg h1,if_pos h2]
  ·rw [decide_eq_false h1,am,decide_eq_false h2,am,if_neg h1,if_neg h2]
 ·rw [if_neg h,show (ckE lo hi 0 != 0)=true from bne_iff_ne.2 h,aq]
end Go.AM.K
