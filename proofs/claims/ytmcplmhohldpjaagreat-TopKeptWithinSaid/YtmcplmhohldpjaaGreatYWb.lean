/- Balls: arcs, fading, quotients, roots. -/
import Derived.Test.YtmcplmhohldpjaaGreatYWa
namespace Go.AM.K
set_option linter.unusedVariables false
set_option linter.unusedSimpArgs false
variable {α:Type}
def ckE (lo hi least:Int):Int:=
 if (least<=lo/\lo<=1099511627776)/\¬ 1099511627776 < hi/\¬ (least < 0/\hi < least) then (if hi < lo then 10 else 0) else 2
theorem f196_eq {lo hi least:Int}{k:Int->Option α}:f196_0 α lo hi least k=k (ckE lo hi least):=by
 simp only [f196_0,sld_eq,f196_0g,J196_0_0,sld_eq,J196_0_0g,Mb.f146_eq]
 unfold ckE
 by_cases h1:least<=lo/\lo<=1099511627776
 ·rw [decide_eq_true h1,Bool.not_true,cK_false]
  by_cases h2:1099511627776 < hi
  ·rw [decide_eq_true h2,cK_true,cK_true,if_neg (fun h=>h.2.1 h2)]
  ·rw [decide_eq_false h2,cK_false]
   by_cases h3:least < 0
   ·rw [decide_eq_true h3,cK_true]
    by_cases h4:hi < least
    ·rw [decide_eq_true h4,cK_true,if_neg (fun h=>h.2.2 ⟨h3,h4⟩)]
    ·rw [decide_eq_false h4,cK_false,if_pos ⟨h1,h2,fun h=>h4 h.2⟩,cK_dec]
     split <;> rfl
   ·rw [decide_eq_false h3,cK_false,cK_false,if_pos ⟨h1,h2,fun h=>h3 h.1⟩,cK_dec]
    split <;> rfl
 ·rw [decide_eq_false h1,Bool.not_false,cK_true,cK_true,if_neg (fun h=>h1 h.1)]
theorem ckE_ok {lo hi least:Int}(h:ckE lo hi least=0):(least<=lo/\lo<=1099511627776)/\hi<=1099511627776/\lo<=hi:=by
 unfold ckE at h
 split at h
 ·rename_i g
  split at h
  ·cases h
  ·omega
 ·cases h
def arcE (lo hi:Int):Bl × Int:=
 if ckE lo hi (-1099511627776)=0 then toBl (Mb.arcX lo hi,Mb.arcY lo hi,Mb.arcR lo hi) else (Bl0,ckE lo hi (-1099511627776))
theorem f164_bl {lo hi:Int}{k:Nat->Nat->Int->Int->Option α}:f164_0 α lo hi k=KB k (arcE lo hi):=by
 simp only [f164_0,sld_eq,f164_0g,f196_eq]
 unfold arcE
 by_cases h:ckE lo hi (-1099511627776)=0
 ·obtain⟨g1,g2,g3⟩:=ckE_ok h
  rw [h,if_pos rfl,show ((0:Int) != 0)=false from rfl,cK_false,Mb.f197_eq (by omega) (by omega) g3]
  rw [okB_S]
  unfold toBl
  by_cases ho:okS (Mb.arcX lo hi,Mb.arcY lo hi,Mb.arcR lo hi)=true
  ·rw [if_pos ho,dif_pos ho];rfl
  ·rw [if_neg ho,dif_neg ho];exact KB0
 ·rw [if_neg h,show (ckE lo hi (-1099511627776) != 0)=true from bne_iff_ne.2 h,cK_true];exact KB0
def flr (n d:Int):Int:=if Int.tmod n d < 0 then w64 (w64 (Int.tdiv n d) - 1) else w64 (Int.tdiv n d)
def cel (n d:Int):Int:=w64 (0 - flr (w64 (0 - n)) d)
theorem f88_raw {n d:Int}(hd:d ≠ 0){k:Int->Option α}:f88_0 α n d k=k (flr n d):=by
 simp only [f88_0,sld_eq,f88_0g]
 have g:(d != 0)=true:=bne_iff_ne.2 hd
 rw [gK_of g,gK_of g,cK_dec]
 unfold flr
 split <;> rfl
theorem f89_raw {n d:Int}(hd:d ≠ 0){k:Int->Option α}:f89_0 α n d k=k (cel n d):=by
 simp only [f89_0,sld_eq,f89_0g,f88_raw hd]
 rfl
def hlv (n:Int):Nat->Nat->Nat
 | 0,k=>k
 | m+1,k=>if 1048576*2 ^ k < n then hlv n m (k+1) else k
def half (n:Int):Nat:=hlv n 42 0
theorem hlv_bd {n:Int}:∀ (m k:Nat),k+m<=42->hlv n m k<=42:=by
 intro m
 induction m with
 | zero=>intro k h;exact h
 | succ m ih=>
  intro k h
  unfold hlv
  split
  ·exact ih _ (by omega)
  ·omega
theorem half_bd (n:Int):half n<=42:=hlv_bd 42 0 (by decide)
theorem pw {k:Nat}(h:k<=42):w64 (1048576*2 ^ (min (Int.toNat (k:Int)) 64))=1048576*2 ^ k/\w64 (1*2 ^ (min (Int.toNat (k:Int)) 64))=2 ^ k/\(1:Int)<=2 ^ k/\(2:Int) ^ k<=4398046511104:=by
 rw [Int.toNat_natCast,Nat.min_eq_left (by omega)]
 have h1:(1:Int)<=2 ^ k:=by
  have:(0:Int) < 2 ^ k:=Int.pow_pos (by decide)
  omega
 have h2:(2:Int) ^ k<=4398046511104:=by
  have:(2:Nat) ^ k<=2 ^ 42:=Nat.pow_le_pow_right (by decide) h
  have e:(2:Nat) ^ 42=4398046511104:=rfl
  rw [e] at this
  rw [show (2:Int) ^ k=((2 ^ k:Nat):Int) by push_cast;rfl]
  generalize 2 ^ k=z at *
  omega
 obtain⟨z,hz⟩:∃ z,z=(2:Int) ^ k:=⟨_,rfl⟩
 rw [<- hz] at h1 h2 ⊢
 exact⟨w64_in (by omega) (by omega),by rw [Int.one_mul];exact w64_in (by omega) (by omega),h1,h2⟩
theorem f215_go {n:Int}(hn:n<=4611686018427387904){k1:Int->Bool->Option α}{y:Int->Option α}(hk:∀ a b,k1 a b=y a) :
  ∀ (m k f:Nat),k+m=42->m < f->R215_0_0 α n k1 f (k:Int)=y (hlv n m k:Int):=by
 intro m
 induction m with
 | zero=>
  intro k f h hf
  obtain⟨f,rfl⟩:∃ f',f=f'+1:=⟨f - 1,by omega⟩
  rw [R215_0_0]
  simp only [S215_0_0]
  obtain⟨p1,_⟩:=pw (k:=k) (by omega)
  have:k=42:=by omega
  subst this
  rw [gK_of (decide_eq_true (by omega)),p1,cK_dec,if_neg (by
   rw [show (2:Int) ^ 42=4398046511104 from rfl];omega),hk]
  rfl
 | succ m ih=>
  intro k f h hf
  obtain⟨f,rfl⟩:∃ f',f=f'+1:=⟨f - 1,by omega⟩
  rw [R215_0_0]
  simp only [S215_0_0]
  obtain⟨p1,_⟩:=pw (k:=k) (by omega)
  rw [gK_of (decide_eq_true (by omega)),p1,cK_dec]
  unfold hlv
  by_cases c:1048576*2 ^ k < n
  ·rw [if_pos c,if_pos c,w64_in (by omega) (by omega)]
   exact ih (k+1) f (by omega) (by omega)
  ·rw [if_neg c,if_neg c,hk]
theorem f215_eq {n:Int}(hn:n<=4611686018427387904){k:Int->Option α}:f215_0 α n k=k (half n:Int):=by
 have hf:42 < fuel:=by have:=fuel_ge;omega
 rw [f215_0,sld_eq,f215_0g,L215_0_0,sld_eq,L215_0_0g]
 exact f215_go (y:=k) hn (fun _ _=>rfl) 42 0 fuel (by decide) hf
def itr (g:Int->Int):Nat->Int->Int
 | 0,f=>f
 | m+1,f=>itr g m (g f)
def fdnE (p:Int):Int:=
 let x:=cel (w64 ((w64 (256*p))*62831854)) 10000000
 let u:=cel x (2 ^ half x)
 itr (fun f=>w64 (Int.tdiv (w64 (f*f)) 1073741824)) (half x) (w64 ((w64 ((w64 (1073741824 - u))+(w64 (Int.tdiv (w64 (u*u)) 2147483648)))) - cel (w64 ((w64 (u*u))*u)) 6917529027641081856))
def fupE (p:Int):Int:=
 let x:=w64 (Int.tdiv (w64 ((w64 (256*p))*62831853)) 10000000)
 let u:=x / 2 ^ half x
 itr (fun f=>cel (w64 (f*f)) 1073741824) (half x) (w64 ((w64 (1073741824 - u))+cel (w64 (u*u)) 2147483648))
theorem R198_go {K:Nat}(hK:K<=42){k1:Int->Int->Bool->Option α}{y:Int->Option α}(hk:∀ a b c,k1 a b c=y a):∀ (m i n:Nat) (f:Int),i+m=K->m < n ->
  R198_0_0 α (K:Int) k1 n f (i:Int)=y (itr (fun f=>w64 (Int.tdiv (w64 (f*f)) 1073741824)) m f):=by
 intro m
 induction m with
 | zero=>
  intro i n f h hn
  obtain⟨n,rfl⟩:∃ n',n=n'+1:=⟨n - 1,by omega⟩
  rw [R198_0_0]
  simp only [S198_0_0]
  rw [cK_dec,if_neg (by omega),hk];rfl
 | succ m ih=>
  intro i n f h hn
  obtain⟨n,rfl⟩:∃ n',n=n'+1:=⟨n - 1,by omega⟩
  rw [R198_0_0]
  simp only [S198_0_0]
  rw [cK_dec,if_pos (by omega),w64_in (n:=(i:Int)+1) (by omega) (by omega)]
  exact ih (i+1) n _ (by omega) (by omega)
theorem R199_go {K:Nat}(hK:K<=42){k1:Int->Int->Bool->Option α}{y:Int->Option α}(hk:∀ a b c,k1 a b c=y a):∀ (m i n:Nat) (f:Int),i+m=K->m < n ->
  R199_0_0 α (K:Int) k1 n f (i:Int)=y (itr (fun f=>cel (w64 (f*f)) 1073741824) m f):=by
 intro m
 induction m with
 | zero=>
  intro i n f h hn
  obtain⟨n,rfl⟩:∃ n',n=n'+1:=⟨n - 1,by omega⟩
  rw [R199_0_0]
  simp only [S199_0_0]
  rw [cK_dec,if_neg (by omega),hk];rfl
 | succ m ih=>
  intro i n f h hn
  obtain⟨n,rfl⟩:∃ n',n=n'+1:=⟨n - 1,by omega⟩
  rw [R199_0_0]
  simp only [S199_0_0]
  rw [cK_dec,if_pos (by omega),f89_raw (by decide),w64_in (n:=(i:Int)+1) (by omega) (by omega)]
  exact ih (i+1) n _ (by omega) (by omega)
theorem cel_eq {n d:Int}(hd:0 < d)(hd2:d<=9223372036854775807)(hn:-9223372036854775807<=n)(hn2:n<=9223372036854775807):cel n d=cdv n d:=by
 have h1:=f89_raw (n:=n) (d:=d) (by omega) (k:=some)
 rw [Mb.f89_eq hd hd2 hn hn2] at h1
 exact (Option.some.inj h1).symm
theorem fdn_x {p:Int}(h1:0<=p)(h2:p<=16777216):cel (w64 ((w64 (256*p))*62831854)) 10000000<=4611686018427387904:=by
 rw [w64_in (n:=256*p) (by omega) (by omega),w64_in (by omega) (by omega),cel_eq (by decide) (by decide) (by omega) (by omega)]
 unfold cdv
 omega
theorem fup_x {p:Int}(h1:0<=p)(h2:p<=16777216):w64 (Int.tdiv (w64 ((w64 (256*p))*62831853)) 10000000)<=4611686018427387904:=by
 rw [w64_in (n:=256*p) (by omega) (by omega),w64_in (n:=256*p*62831853) (by omega) (by omega),Int.tdiv_eq_ediv_of_nonneg (by omega),w64_in (by omega) (by omega)]
 omega
theorem f198_eq {p:Int}(hp1:0<=p)(hp2:p<=16777216){k:Int->Option α}:f198_0 α p k=k (fdnE p):=by
 simp only [f198_0,sld_eq,f198_0g]
 rw [f89_raw (by decide),f215_eq (fdn_x hp1 hp2)]
 have hb:=half_bd (cel (w64 ((w64 (256*p))*62831854)) 10000000)
 obtain⟨_,p2,p3,_⟩:=pw hb
 rw [gK_of (decide_eq_true (by omega)),p2,f89_raw (by omega),f89_raw (by decide)]
 have hf:half (cel (w64 ((w64 (256*p))*62831854)) 10000000) < fuel:=by have:=fuel_ge;omega
 rw [L198_0_0,sld_eq,L198_0_0g]
 exact R198_go (y:=k) hb (fun _ _ _=>rfl) _ 0 fuel _ (by omega) hf
theorem f199_eq {p:Int}(hp1:0<=p)(hp2:p<=16777216){k:Int->Option α}:f199_0 α p k=k (fupE p):=by
 simp only [f199_0,sld_eq,f199_0g]
 rw [f215_eq (fup_x hp1 hp2)]
 have hb:=half_bd (w64 (Int.tdiv (w64 ((w64 (256*p))*62831853)) 10000000))
 rw [gK_of (decide_eq_true (by omega)),Int.toNat_natCast,Nat.min_eq_left (by omega),fdivp,f89_raw (by decide)]
 have hf:half (w64 (Int.tdiv (w64 ((w64 (256*p))*62831853)) 10000000)) < fuel:=by have:=fuel_ge;omega
 rw [L199_0_0,sld_eq,L199_0_0g]
 exact R199_go (y:=k) hb (fun _ _ _=>rfl) _ 0 fuel _ (by omega) hf
def fadeE (lo hi:Int):Int × Int × Int:=
 if ckE lo hi 0=0 then
  (if hi<=16777216 then (if flr (fdnE hi) 1024 > 0 then flr (fdnE hi) 1024 else 0) else 0,
   if lo<=16777216 then (if cel (fupE lo) 1024 < 1048576 then cel (fupE lo) 1024 else 1048576) else 1,0)
 else (0,0,ckE lo hi 0)
theorem f165_eq {lo hi:Int}{k:Int->Int->Int->Option α}:f165_0 α lo hi k=k (fadeE lo hi).1 (fadeE lo hi).2.1 (fadeE lo hi).2.2:=by
 simp only [f165_0,sld_eq,f165_0g,J165_0_0,sld_eq,J165_0_0g,f196_eq]
 unfold fadeE
 by_cases h:ckE lo hi 0=0
 ·obtain⟨g1,g2,g3⟩:=ckE_ok h
  rw [if_pos h,h,show ((0:Int) != 0)=false from rfl,cK_false]
  by_cases h1:hi<=16777216 <;> by_cases h2:lo<=16777216
  ·rw [decide_eq_true h1,cK_true,f198_eq (by omega) h1,f88_raw (by decide),decide_eq_true h2,cK_true,f199_eq g1.1 h2,f89_raw (by decide),if_pos h1,if_pos h2]
  ·rw [decide_eq_true h1,cK_true,f198_eq (by omega) h1,f88_raw (by decide),decide_eq_false h2,cK_false,if_pos h1,if_neg h2]
  ·rw [decide_eq_false h1,cK_false,decide_eq_true h2,cK_true,f199_eq g1.1 h2,f89_raw (by decide),if_neg h1,if_pos h2]
  ·rw [decide_eq_false h1,cK_false,decide_eq_false h2,cK_false,if_neg h1,if_neg h2]
 ·rw [if_neg h,show (ckE lo hi 0 != 0)=true from bne_iff_ne.2 h,cK_true]
end Go.AM.K
