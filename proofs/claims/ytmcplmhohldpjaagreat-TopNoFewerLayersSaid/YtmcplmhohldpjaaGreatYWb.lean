/- Balls: arcs, fading, quotients, roots. -/
import Derived.Test.YtmcplmhohldpjaaGreatYWa
namespace Go.AM.K
set_option linter.unusedVariables false
set_option linter.unusedSimpArgs false
variable {α:Type}
def ckE (lo hi least:Int):Int:=
 if (least<=lo/\lo<=1099511627776)/\¬ 1099511627776 < hi/\¬ (least < 0/\hi < least) then (if hi < lo then 10 else 0) else 2
theorem LO {lo hi least:Int}{k:Int->Option α}:uR α lo hi least k=k (ckE lo hi least):=by
 simp only [uR,af,LD,qY,af,Ca,Mb.f146_eq]
 unfold ckE
 by_cases h1:least<=lo/\lo<=1099511627776
 ·rw [decide_eq_true h1,Bool.not_true,ap]
  by_cases h2:1099511627776 < hi
  ·rw [decide_eq_true h2,aq,aq,if_neg (fun h=>h.2.1 h2)]
  ·rw [decide_eq_false h2,ap]
   by_cases h3:least < 0
   ·rw [decide_eq_true h3,aq]
    by_cases h4:hi < least
    ·rw [decide_eq_true h4,aq,if_neg (fun h=>h.2.2 ⟨h3,h4⟩)]
    ·rw [decide_eq_false h4,ap,if_pos ⟨h1,h2,fun h=>h4 h.2⟩,bi]
     split <;> rfl
   ·rw [decide_eq_false h3,ap,ap,if_pos ⟨h1,h2,fun h=>h3 h.1⟩,bi]
    split <;> rfl
 ·rw [decide_eq_false h1,Bool.not_false,aq,aq,if_neg (fun h=>h1 h.1)]
theorem VY {lo hi least:Int}(h:ckE lo hi least=0):(least<=lo/\lo<=1099511627776)/\hi<=1099511627776/\lo<=hi:=by
 unfold ckE at h
 split at h
 ·rename_i g
  split at h
  ·cases h
  ·omega
 ·cases h
def Gb (lo hi:Int):Bl × Int:=
 if ckE lo hi (-1099511627776)=0 then pz (Mb.arcX lo hi,Mb.arcY lo hi,Mb.arcR lo hi) else (Bl0,ckE lo hi (-1099511627776))
theorem agC {lo hi:Int}{k:Nat->Nat->Int->Int->Option α}:uT α lo hi k=KB k (Gb lo hi):=by
 simp only [uT,af,LF,LO]
 unfold Gb
 by_cases h:ckE lo hi (-1099511627776)=0
 ·obtain⟨g1,g2,g3⟩:=VY h
  rw [h,if_pos rfl,show ((0:Int) != 0)=false from rfl,ap,Mb.f197_eq (by omega) (by omega) g3]
  rw [Tu]
  unfold pz
  by_cases ho:okS (Mb.arcX lo hi,Mb.arcY lo hi,Mb.arcR lo hi)=true
  ·rw [if_pos ho,dif_pos ho];rfl
  ·rw [if_neg ho,dif_neg ho];exact KB0
 ·rw [if_neg h,show (ckE lo hi (-1099511627776) != 0)=true from bne_iff_ne.2 h,aq];exact KB0
def flr (n d:Int):Int:=if Int.tmod n d < 0 then w64 (w64 (Int.tdiv n d) - 1) else w64 (Int.tdiv n d)
def cel (n d:Int):Int:=w64 (0 - flr (w64 (0 - n)) d)
theorem E9 {n d:Int}(hd:d ≠ 0){k:Int->Option α}:jc α n d k=k (flr n d):=by
 simp only [jc,af,JL]
 have g:(d != 0)=true:=bne_iff_ne.2 hd
 rw [cJ g,cJ g,bi]
 unfold flr
 split <;> rfl
theorem gN {n d:Int}(hd:d ≠ 0){k:Int->Option α}:dK α n d k=k (cel n d):=by
 simp only [dK,af,IU,E9 hd]
 rfl
def hlv (n:Int):Nat->Nat->Nat
 | 0,k=>k
 | m+1,k=>if 1048576*2 ^ k < n then hlv n m (k+1) else k
def gj (n:Int):Nat:=hlv n 42 0
theorem air {n:Int}:∀ (m k:Nat),k+m<=42->hlv n m k<=42:=by
 intro m
 induction m with
 | zero=>intro k h;exact h
 | succ m ih=>
  intro k h
  unfold hlv
  split
  ·exact ih _ (by omega)
  ·omega
theorem xN (n:Int):gj n<=42:=air 42 0 (by decide)
theorem pw {k:Nat}(h:k<=42):w64 (1048576*2 ^ (min (Int.toNat (k:Int)) 64))=1048576*2 ^ k/\w64 (1*2 ^ (min (Int.toNat (k:Int)) 64))=2 ^ k/\(1:Int)<=2 ^ k/\(2:Int) ^ k<=4398046511104:=by
 rw [Int.toNat_natCast,Nat.min_eq_left (by omega)]
 have h1:(1:Int)<=2 ^ k:=by
  have:(0:Int) < 2 ^ k:=Int.pow_pos (by decide)
  omega
 have h2:(2:Int) ^ k<=4398046511104:=by
  have:(2:Nat) ^ k<=2 ^ 42:=Nat.pow_le_pow_right (by decide) h
  have e:(2:Nat) ^ 42=4398046511104:=rfl
  rw [e] at this
  rw [show (2:Int) ^ k=((2 ^ k:Nat):Int) by push_cast;rfl]
  generalize 2 ^ k=z at *
  omega
 obtain⟨z,hz⟩:∃ z,z=(2:Int) ^ k:=⟨_,rfl⟩
 rw [<- hz] at h1 h2 ⊢
 exact⟨ak (by omega) (by omega),by rw [Int.one_mul];exact ak (by omega) (by omega),h1,h2⟩
theorem agB {n:Int}(hn:n<=4611686018427387904){k1:Int->Bool->Option α}{y:Int->Option α}(hk:∀ a b,k1 a b=y a) :
  ∀ (m k f:Nat),k+m=42->m < f->kT α n k1 f (k:Int)=y (hlv n m k:Int):=by
 intro m
 induction m with
 | zero=>
  intro k f h hf
  obtain⟨f,rfl⟩:∃ f',f=f'+1:=⟨f - 1,by omega⟩
  rw [kT]
  simp only [no]
  obtain⟨p1,_⟩:=pw (k:=k) (by omega)
  have:k=42:=by omega
  subst this
  rw [cJ (decide_eq_true (by omega)),p1,bi,if_neg (by
   rw [show (2:Int) ^ 42=4398046511104 from rfl];omega),hk]
  rfl
 | succ m ih=>
  intro k f h hf
  obtain⟨f,rfl⟩:∃ f',f=f'+1:=⟨f - 1,by omega⟩
  rw [kT]
  simp only [no]
  obtain⟨p1,_⟩:=pw (k:=k) (by omega)
  rw [cJ (decide_eq_true (by omega)),p1,bi]
  unfold hlv
  by_cases c:1048576*2 ^ k < n
  ·rw [if_pos c,if_pos c,ak (by omega) (by omega)]
   exact ih (k+1) f (by omega) (by omega)
  ·rw [if_neg c,if_neg c,hk]
theorem PA {n:Int}(hn:n<=4611686018427387904){k:Int->Option α}:uk α n k=k (gj n:Int):=by
 have hf:42 < aN:=by have:=cB;omega
 rw [uk,af,Ku,tB,af,BY]
 exact agB (y:=k) hn (fun _ _=>rfl) 42 0 aN (by decide) hf
def itr (g:Int->Int):Nat->Int->Int
 | 0,f=>f
 | m+1,f=>itr g m (g f)
def By (p:Int):Int:=
 let x:=cel (w64 ((w64 (256*p))*62831854)) 10000000
 let u:=cel x (2 ^ gj x)
 itr (fun f=>w64 (Int.tdiv (w64 (f*f)) 1073741824)) (gj x) (w64 ((w64 ((w64 (1073741824 - u))+(w64 (Int.tdiv (w64 (u*u)) 2147483648)))) - cel (w64 ((w64 (u*u))*u)) 6917529027641081856))
def yP (p:Int):Int:=
 let x:=w64 (Int.tdiv (w64 ((w64 (256*p))*62831853)) 10000000)
 let u:=x / 2 ^ gj x
 itr (fun f=>cel (w64 (f*f)) 1073741824) (gj x) (w64 ((w64 (1073741824 - u))+cel (w64 (u*u)) 2147483648))
theorem acP {K:Nat}(hK:K<=42){k1:Int->Int->Bool->Option α}{y:Int->Option α}(hk:∀ a b c,k1 a b c=y a):∀ (m i n:Nat) (f:Int),i+m=K->m < n ->
  lf α (K:Int) k1 n f (i:Int)=y (itr (fun f=>w64 (Int.tdiv (w64 (f*f)) 1073741824)) m f):=by
 intro m
 induction m with
 | zero=>
  intro i n f h hn
  obtain⟨n,rfl⟩:∃ n',n=n'+1:=⟨n - 1,by omega⟩
  rw [lf]
  simp only [nX]
  rw [bi,if_neg (by omega),hk];rfl
 | succ m ih=>
  intro i n f h hn
  obtain⟨n,rfl⟩:∃ n',n=n'+1:=⟨n - 1,by omega⟩
  rw [lf]
  simp only [nX]
  rw [bi,if_pos (by omega),ak (n:=(i:Int)+1) (by omega) (by omega)]
  exact ih (i+1) n _ (by omega) (by omega)
theorem adP {K:Nat}(hK:K<=42){k1:Int->Int->Bool->Option α}{y:Int->Option α}(hk:∀ a b c,k1 a b c=y a):∀ (m i n:Nat) (f:Int),i+m=K->m < n ->
  kW α (K:Int) k1 n f (i:Int)=y (itr (fun f=>cel (w64 (f*f)) 1073741824) m f):=by
 intro m
 induction m with
 | zero=>
  intro i n f h hn
  obtain⟨n,rfl⟩:∃ n',n=n'+1:=⟨n - 1,by omega⟩
  rw [kW]
  simp only [nU]
  rw [bi,if_neg (by omega),hk];rfl
 | succ m ih=>
  intro i n f h hn
  obtain⟨n,rfl⟩:∃ n',n=n'+1:=⟨n - 1,by omega⟩
  rw [kW]
  simp only [nU]
  rw [bi,if_pos (by omega),gN (by decide),ak (n:=(i:Int)+1) (by omega) (by omega)]
  exact ih (i+1) n _ (by omega) (by omega)
theorem j9 {n d:Int}(hd:0 < d)(hd2:d<=9223372036854775807)(hn:-9223372036854775807<=n)(hn2:n<=9223372036854775807):cel n d=cdv n d:=by
 have h1:=gN (n:=n) (d:=d) (by omega) (k:=some)
 rw [Mb.f89_eq hd hd2 hn hn2] at h1
 exact (Option.some.inj h1).symm
theorem aqw {p:Int}(h1:0<=p)(h2:p<=16777216):cel (w64 ((w64 (256*p))*62831854)) 10000000<=4611686018427387904:=by
 rw [ak (n:=256*p) (by omega) (by omega),ak (by omega) (by omega),j9 (by decide) (by decide) (by omega) (by omega)]
 unfold cdv
 omega
theorem amy {p:Int}(h1:0<=p)(h2:p<=16777216):w64 (Int.tdiv (w64 ((w64 (256*p))*62831853)) 10000000)<=4611686018427387904:=by
 rw [ak (n:=256*p) (by omega) (by omega),ak (n:=256*p*62831853) (by omega) (by omega),Int.tdiv_eq_ediv_of_nonneg (by omega),ak (by omega) (by omega)]
 omega
theorem Nu {p:Int}(hp1:0<=p)(hp2:p<=16777216){k:Int->Option α}:yl α p k=k (By p):=by
 simp only [yl,af,LA]
 rw [gN (by decide),PA (aqw hp1 hp2)]
 have hb:=xN (cel (w64 ((w64 (256*p))*62831854)) 10000000)
 obtain⟨_,p2,p3,_⟩:=pw hb
 rw [cJ (decide_eq_true (by omega)),p2,gN (by omega),gN (by decide)]
 have hf:gj (cel (w64 ((w64 (256*p))*62831854)) 10000000) < aN:=by have:=cB;omega
 rw [rX,af,Dk]
 exact acP (y:=k) hb (fun _ _ _=>rfl) _ 0 aN _ (by omega) hf
theorem Kk {p:Int}(hp1:0<=p)(hp2:p<=16777216){k:Int->Option α}:vt α p k=k (yP p):=by
 simp only [vt,af,MS]
 rw [PA (amy hp1 hp2)]
 have hb:=xN (w64 (Int.tdiv (w64 ((w64 (256*p))*62831853)) 10000000))
 rw [cJ (decide_eq_true (by omega)),Int.toNat_natCast,Nat.min_eq_left (by omega),vC,gN (by decide)]
 have hf:gj (w64 (Int.tdiv (w64 ((w64 (256*p))*62831853)) 10000000)) < aN:=by have:=cB;omega
 rw [qH,af,Di]
 exact adP (y:=k) hb (fun _ _ _=>rfl) _ 0 aN _ (by omega) hf
def lU (lo hi:Int):Int × Int × Int:=
 if ckE lo hi 0=0 then
  (if hi<=16777216 then (if flr (By hi) 1024 > 0 then flr (By hi) 1024 else 0) else 0,
   if lo<=16777216 then (if cel (yP lo) 1024 < 1048576 then cel (yP lo) 1024 else 1048576) else 1,0)
 else (0,0,ckE lo hi 0)
theorem abF {lo hi:Int}{k:Int->Int->Int->Option α}:qq α lo hi k=k (lU lo hi).1 (lU lo hi).2.1 (lU lo hi).2.2:=by
 simp only [qq,af,LL,tL,af,Cp,LO]
 unfold lU
 by_cases h:ckE lo hi 0=0
 ·obtain⟨g1,g2,g3⟩:=VY h
  rw [if_pos h,h,show ((0:Int) != 0)=false from rfl,ap]
  by_cases h1:hi<=16777216 <;> by_cases h2:lo<=16777216
  ·rw [decide_eq_true h1,aq,Nu (by omega) h1,E9 (by decide),decide_eq_true h2,aq,Kk g1.1 h2,gN (by decide),if_pos h1,if_pos h2]
  ·rw [decide_eq_true h1,aq,Nu (by omega) h1,E9 (by decide),decide_eq_false h2,ap,if_pos h1,if_neg h2]
  ·rw [decide_eq_false h1,ap,decide_eq_true h2,aq,Kk g1.1 h2,gN (by decide),if_neg h1,if_pos h2]
  ·rw [decide_eq_false h1,ap,decide_eq_false h2,ap,if_neg h1,if_neg h2]
 ·rw [if_neg h,show (ckE lo hi 0 != 0)=true from bne_iff_ne.2 h,aq]
end Go.AM.K
