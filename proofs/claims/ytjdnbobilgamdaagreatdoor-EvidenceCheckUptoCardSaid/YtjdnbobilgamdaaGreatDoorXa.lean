/- The distance as the reference reckons it, in plain Lean. What the reference says of two records, in plain Lean. Comparing, in plain Lean. Evidence is checked, both ways, in plain Lean. The law of checked evidence, in plain Lean. Conditions: none. -/
import Derived.Test.YtjdnbobilgamdaaGreatDoorDvr
import Derived.Test.YtjdnbobilgamdaaGreatDoorWa
import Derived.Test.YtjdnbobilgamdaaGreatDoorOk
section
namespace Go.Proofs.YtjdnbobilgamdaaGreatDoor.Ab.um
open Go
theorem Xi(a b:List Int):ld a b≤a.length+b.length:=by
 have:=((Way.Uu a).app (Way.all b)).le
 simpa using this
theorem Xj(a b:List Int):∀ (k i j:Nat),i+j≤k→i≤a.length→j≤b.length→dd a b i j=ld (a.take i).reverse (b.take j).reverse:=by
 intro k
 induction k with
 |zero=>
  intro i j h _ _
  obtain rfl:i=0:=by omega
  obtain rfl:j=0:=by omega
  simp[wJ,tn]
 |succ k ih=>
  intro i j h hi hj
  cases i with
  |zero=>rw[wJ];simp[tn];omega
  |succ i=>
   cases j with
   |zero=>rw[wK];simp[rM];omega
   |succ j=>
    rw[D6,dA 0 (by omega:i<a.length),dA 0 (by omega:j<b.length)]
    simp only[List.reverse_append,List.reverse_cons,List.reverse_nil,acU,List.singleton_append]
    rw[qh]
    have e1:=ih i (j+1) (by omega) (by omega) (by omega)
    have e2:=ih (i+1) j (by omega) (by omega) (by omega)
    rw[dA 0 (by omega:j<b.length)] at e1
    rw[dA 0 (by omega:i<a.length)] at e2
    simp only[List.reverse_append,List.reverse_cons,List.reverse_nil,acU,List.singleton_append] at e1 e2
    rw[ih i j (by omega) (by omega) (by omega),e1,e2,Nat.min_right_comm]
theorem Uw(a b:List Int):dd a b a.length b.length=ld a b:=by
 rw[Xj a b _ _ _ (aaZ _) (aaZ _) (aaZ _),abO,abO,Uv]
abbrev NM:=List (Bool×List Int)
abbrev nd:Bool×List Int:=(false,[])
def o_(a b:List Int)(k:Nat):List Int:=(List.range (b.length+1)).map fun j=>((ld (a.drop k) (b.drop j):Nat):Int)
theorem xt(a b:List Int)(k:Nat):(o_ a b k).length=b.length+1:=by simp[o_]
theorem xu{a b:List Int}{k j:Nat}(h:j≤b.length):(o_ a b k).getD j 0=((ld (a.drop k) (b.drop j):Nat):Int):=by
 simp[o_,abz,aba,show j<b.length+1 by omega]
theorem rO{M:NM}{i j:Nat}(hi:i<M.length)(hj:j<(M.getD i nd).2.length):lU M (i:Int) (j:Int)=some ((M.getD i nd).2.getD j 0):=by
 unfold lU
 rw[bz nd hi,aaQ,bz 0 hj]
theorem Iz{M:NM}{i j:Nat}{r:List Int}{v:Int}(hi:i<M.length)(hr:M.getD i nd=(true,r))(hj:j<r.length):uG M (i:Int) (j:Int) v=some (M.set i (true,r.set j v)):=by
 unfold uG
 rw[bz nd hi,aaQ,hr]
 simp only[abh]
 rw[lj (by omega) (by omega)]
 simp
theorem drop_cons{a:List Int}{i:Nat}(h:i<a.length):a.drop i=a.getD i 0::a.drop (i+1):=by
 rw[ab7 h]
 simp[h]
theorem OA{n:Nat}{a b:List Int}{i:Nat}{M0:NM}{r0:List Int}(ha:a.length≤1000000000)(hb:b.length≤1000000000)(hi:i≤a.length)(hM:M0.length=a.length+1)(hr:M0.getD i nd=(true,r0))(L9:r0.length=b.length+1)
  (Xk:i<a.length→M0.getD (i+1) nd=(true,o_ a b (i+1)))(hn:b.length+1<n):
  ∃ t,iter n (fun s=>iV n a b (i:Int) s.1 s.2) ((b.length:Int),M0)=some t∧t.length=a.length+1∧t.getD i nd=(true,o_ a b i)∧∀ q,q≠i→t.getD q nd=M0.getD q nd:=by
 refine bF (σ:=Int×NM) (I:=fun k s=>s.1=(k:Int)-1∧k≤b.length+1∧s.2.length=a.length+1∧(∃ r,s.2.getD i nd=(true,r)∧r.length=b.length+1∧∀ x,k≤x→x≤b.length→r.getD x 0=((ld (a.drop i) (b.drop x):Nat):Int))∧∀ q,q≠i→s.2.getD q nd=M0.getD q nd)
  (Q:=fun t:NM=>t.length=a.length+1∧t.getD i nd=(true,o_ a b i)∧∀ q,q≠i→t.getD q nd=M0.getD q nd) ?_ (b.length+1) n _ ⟨by simp,by omega,hM,⟨r0,hr,L9,fun x h1 h2=>by omega⟩,fun _ _=>rfl⟩ hn
 rintro k ⟨c,M⟩ ⟨h1,h2,h3,⟨r,h4,h5,h6⟩,h7⟩
 dsimp only at h1 h3 h4 h7
 subst h1
 simp only[iV]
 by_cases hk:k=0
 ·right
  subst hk
  refine⟨M,by rw[aa7 (by simp)],h3,?_,h7⟩
  rw[h4]
  congr 1
  refine aee (by rw[h5,xt]) (fun x e1 e2=>?_)
  have hx:x≤b.length:=by omega
  have:=h6 x (acp _) hx
  rw[←xu (a:=a) (k:=i) hx] at this
  simpa[abz,e1,e2] using this
 ·left
  obtain⟨j,rfl⟩:∃ j,k=j+1:=⟨k-1,by omega⟩
  have e0:((j+1:Nat):Int)-1=(j:Int):=by omega
  have hj:j≤b.length:=by omega
  have Hy:i<M.length:=by omega
  have hrj:j<(M.getD i nd).2.length:=by rw[h4];simp only;omega
  have put:∀ v:Int,v=((ld (a.drop i) (b.drop j):Nat):Int)→∃ s',(uG M (i:Int) (j:Int) v).bind (fun t=>some (Sum.inl (IntKind.i64.wrap ((j:Int)-1),t):(Int×NM)⊕NM))=some (.inl s')∧s'.1=(j:Int)-1∧s'.2.length=a.length+1∧(∃ r,s'.2.getD i nd=(true,r)∧r.length=b.length+1∧∀ x,j≤x→x≤b.length→r.getD x 0=((ld (a.drop i) (b.drop x):Nat):Int))∧∀ q,q≠i→s'.2.getD q nd=M0.getD q nd:=by
   rintro v rfl
   rw[Iz Hy h4 (by omega),aaQ]
   refine⟨_,rfl,by simp only;rw[jT (by omega) (by omega)],by simpa using h3,⟨r.set j ((ld (a.drop i) (b.drop j):Nat):Int),?_,by simpa using h5,fun x hx IY=>?_⟩,fun q hq=>?_⟩
   ·simp only;rw[jy _ _ _ _ _ Hy,aa2 rfl]
   ·rw[jy _ _ _ _ _ (by omega)]
    split
    ·rename_i e;rw[e]
    ·exact h6 x (by omega) IY
   ·simp only;rw[jy _ _ _ _ _ Hy,aa7 (acN hq)];exact h7 q hq
  have fin:∀ v:Int,v=((ld (a.drop i) (b.drop j):Nat):Int)→∃ s' k',(uG M (i:Int) (j:Int) v).bind (fun t=>some (Sum.inl (IntKind.i64.wrap ((j:Int)-1),t):(Int×NM)⊕NM))=some (.inl s')∧k'<j+1∧s'.1=(k':Int)-1∧k'≤b.length+1∧s'.2.length=a.length+1∧(∃ r,s'.2.getD i nd=(true,r)∧r.length=b.length+1∧∀ x,k'≤x→x≤b.length→r.getD x 0=((ld (a.drop i) (b.drop x):Nat):Int))∧∀ q,q≠i→s'.2.getD q nd=M0.getD q nd:=by
   intro v hv
   obtain⟨s',q1,q2,q3,q4,q5⟩:=put v hv
   exact⟨s',j,q1,by omega,q2,by omega,q3,q4,q5⟩
  have wb:=Xi (a.drop (i+1)) (b.drop (j+1))
  rw[e0,aa2 (by simp),bz nd Hy]
  simp only[aaQ,rO Hy hrj]
  by_cases c1:i=a.length
  ·subst c1
   rw[aa2 (by simp)]
   simp only[ad7,aaQ]
   refine fin _ ?_
   rw[List.drop_length,tn,ack,jT (by omega) (by omega)];omega
  ·rw[aa7 (by simp;omega)]
   have Sr:i<a.length:=by omega
   by_cases c2:j=b.length
   ·subst c2
    rw[aa2 (by simp)]
    simp only[ad7,aaQ]
    refine fin _ ?_
    rw[List.drop_length,rM,ack,jT (by omega) (by omega)];omega
   ·rw[aa7 (by simp;omega)]
    have hjb:j<b.length:=by omega
    have w1:IntKind.i64.wrap ((i:Int)+1)=((i+1:Nat):Int):=by rw[jT (by omega) (by omega)];omega
    have w2:IntKind.i64.wrap ((j:Int)+1)=((j+1:Nat):Int):=by rw[jT (by omega) (by omega)];omega
    have Xl:=Xk Sr
    rw[←h7 (i+1) (by omega)] at Xl
    have hM1:i+1<M.length:=by omega
    have g1:lU M ((i+1:Nat):Int) ((j+1:Nat):Int)=some ((ld (a.drop (i+1)) (b.drop (j+1)):Nat):Int):=by
     rw[rO hM1 (by rw[Xl];simp only[xt];omega),Xl]
     simp only;rw[xu (by omega)]
    have g2:lU M ((i+1:Nat):Int) (j:Int)=some ((ld (a.drop (i+1)) (b.drop j):Nat):Int):=by
     rw[rO hM1 (by rw[Xl];simp only[xt];omega),Xl]
     simp only;rw[xu (by omega)]
    have g3:lU M (i:Int) ((j+1:Nat):Int)=some ((ld (a.drop i) (b.drop (j+1)):Nat):Int):=by
     rw[rO Hy (by rw[h4];simp only;omega),h4]
     simp only;rw[h6 (j+1) (by omega) (by omega)]
    rw[bz 0 Sr,aaQ,bz 0 hjb,aaQ,w1,w2,bz nd hM1]
    simp only[aaQ,g1,g2,g3]
    have hl:ld (a.drop i) (b.drop j)=if a.getD i 0=b.getD j 0 then ld (a.drop (i+1)) (b.drop (j+1)) else 1+min (min (ld (a.drop (i+1)) (b.drop (j+1))) (ld (a.drop (i+1)) (b.drop j))) (ld (a.drop i) (b.drop (j+1))):=by
     rw[drop_cons Sr,drop_cons hjb,qh]
    by_cases c3:a.getD i 0=b.getD j 0
    ·rw[aa2 (by simp only[c3,abo])]
     simp only[ad7,aaQ]
     refine fin _ ?_
     rw[hl,aa2 c3]
    ·rw[aa7 (by simp only[c3,abx];decide)]
     simp only[ad7,aaQ]
     refine fin _ ?_
     rw[hl,aa7 c3]
     simp only[ack] at wb
     rw[jT (by omega) (by omega)];omega
theorem OC{a b:List Int}(ha:a.length≤1000000000)(hb:b.length≤1000000000):∃ T,mc FU a b=some T∧T.length=a.length+1∧T.getD 0 []=o_ a b 0:=by
 unfold mc
 have e1:IntKind.i64.wrap ((a.length:Int)+1)=((a.length+1:Nat):Int):=by rw[jT (by omega) (by omega)];omega
 have e2:IntKind.i64.wrap ((b.length:Int)+1)=((b.length+1:Nat):Int):=by rw[jT (by omega) (by omega)];omega
 rw[e1,og (by omega) (by omega) (by omega),aaQ]
 unfold Ab.DY
 rw[aa7 (by simp),aaQ]
 obtain⟨t,h1,h2,h3⟩:=bF (σ:=Int×NM) (f:=fun s=>iU FU a b s.1 s.2) (I:=fun k s=>s.1=(k:Int)-1∧k≤a.length+1∧s.2.length=a.length+1∧∀ q,k≤q→q≤a.length→s.2.getD q nd=(true,o_ a b q))
  (Q:=fun t:NM=>t.length=a.length+1∧t.getD 0 nd=(true,o_ a b 0)) (by
   rintro k ⟨c,M⟩ ⟨h1,h2,h3,h4⟩
   dsimp only at h1 h3 h4
   subst h1
   simp only[iU]
   by_cases hk:k=0
   ·right
    subst hk
    exact⟨M,by rw[aa7 (by simp)],h3,h4 0 (aaZ _) (acp _)⟩
   ·left
    obtain⟨i,rfl⟩:∃ i,k=i+1:=⟨k-1,by omega⟩
    have e0:((i+1:Nat):Int)-1=(i:Int):=by omega
    have Hy:i<M.length:=by omega
    rw[e0,aa2 (by simp),e2,og (by omega) (by omega) (by omega),aaQ,bz nd Hy,aaQ]
    unfold IV
    rw[aa2 ⟨by omega,by simpa using Hy⟩,aaQ]
    simp only[aa8]
    obtain⟨t,q1,q2,q3,q4⟩:=OA (n:=FU) (a:=a) (b:=b) (i:=i) (M0:=M.set i (true,List.replicate (b.length+1) 0)) (r0:=List.replicate (b.length+1) 0) ha hb (by omega) (by simpa using h3) (by rw[jy _ _ _ _ _ Hy,aa2 rfl]) (by simp)
     (fun Sr=>by rw[jy _ _ _ _ _ Hy,aa7 (by omega)];exact h4 (i+1) (by omega) (by omega)) (by simp only[FU];omega)
    rw[q1,aaQ]
    refine⟨_,i,rfl,by omega,by simp only;rw[jT (by omega) (by omega)],by omega,q2,fun q hq Xb=>?_⟩
    simp only
    by_cases hqi:q=i
    ·subst hqi;exact q3
    ·rw[q4 q hqi,jy _ _ _ _ _ Hy,aa7 (by omega)]
     exact h4 q (by omega) Xb) (a.length+1) FU ((a.length:Int),(List.replicate (((a.length+1:Nat):Int).toNat) ([]:List Int)).map fun r=>(false,r)) ⟨by simp,by omega,by simp,fun q h1 h2=>by omega⟩ (by simp only[FU];omega)
 rw[h1,aaQ]
 refine⟨_,rfl,by simpa using h2,?_⟩
 have:(t.map Prod.snd).getD 0 []=(t.getD 0 nd).2:=by
  simp only[abz,aba]
  cases t[0]?<;>rfl
 rw[this,h3]
theorem IA{a b:List Int}(ha:a.length≤1000000000)(hb:b.length≤1000000000):iW FU a b=some ((ld a b:Nat):Int):=by
 obtain⟨T,h1,h2,h3⟩:=OC ha hb
 unfold iW
 have e:ix T (0:Int)=some (T.getD 0 []):=bz (i:=0) [] (by omega)
 rw[h1,aaQ,e,aaQ,h3]
 have e2:ix (o_ a b 0) (0:Int)=some ((o_ a b 0).getD 0 0):=bz (i:=0) 0 (by rw[xt];omega)
 rw[e2,aaQ,xu (acp _)]
 simp
theorem zm{s:List UInt8}(h:s.length≤1000000000):ma FU s=some (RH s):=(sH h).1
theorem B_{a b:List UInt8}(ha:a.length≤1000000000)(hb:b.length≤1000000000):∃ v:Int,lF FU a b=some v∧decide (v≤2)=nr a b:=by
 have l1:=(sH ha).2
 have l2:=(sH hb).2
 unfold lF nr
 rw[zm ha,aaQ,zm hb,aaQ,IA (by omega) (by omega),aaQ]
 refine⟨_,rfl,?_⟩
 rw[Uw,abH];omega
end Go.Proofs.YtjdnbobilgamdaaGreatDoor.Ab.um
end
section
namespace Go.Proofs.YtjdnbobilgamdaaGreatDoor.Ab.um
open Go
theorem OD{l:List (List UInt8)}{x:List UInt8}(hl:l.length≤1000000000):nP FU l x=some (l.any fun y=>decide (y=x)):=by
 unfold nP
 rw[fh l.length FU (fun i=>decide (l.getD i []=x)) (.inl true) (.inr ()) (fun j hj=>by
    unfold l_
    rw[aa2 (by simp;omega),bz [] hj,aaQ,cv hj (by simp only[ML];omega)]
    cases decide (l.getD j []=x)<;>rfl) (by unfold l_;simp) (by simp only[FU];omega),jY l [] (fun y=>decide (y=x))]
 cases l.any fun y=>decide (y=x)<;>rfl
theorem Ap{l:List (List UInt8)}{x:List UInt8}:(l.any fun y=>decide (y=x))=decide (x∈l):=by
 rw[abG,acd];simp
def ko(a:List (List UInt8)):Nat→List (List UInt8)
 |0=>[]
 |i+1=>if a.getD i []∈a.take i then ko a i else ko a i++[a.getD i []]
theorem vO{a:List (List UInt8)}:∀ {i:Nat},i≤a.length→∀ x,x∈ko a i↔x∈a.take i
 |0,_,x=>by simp[ko]
 |i+1,h,x=>by
  have ih:=vO (a:=a) (i:=i) (by omega) x
  rw[dA [] (by omega:i<a.length)]
  simp only[ko]
  split
  ·rename_i hm
   rw[ih,ab']
   constructor
   ·exact .inl
   ·rintro(h1|h1)
    ·exact h1
    ·rw[ab0.1 h1];exact hm
  ·rw[ab',ab',ih]
theorem lI{a:List (List UInt8)}:∀ {i:Nat},i≤a.length→(ko a i).Nodup
 |0,_=>by simp[ko]
 |i+1,h=>by
  have ih:=lI (a:=a) (i:=i) (by omega)
  simp only[ko]
  split
  ·exact ih
  ·rename_i hm
   rw[ad_]
   refine⟨ih,by simp,fun x hx y hy e=>?_⟩
   rw[ab0.1 hy] at e
   rw[vO (by omega)] at hx
   exact hm (e▸hx)
theorem vP{a:List (List UInt8)}:∀ {i:Nat},(ko a i).length≤i
 |0=>by simp[ko]
 |i+1=>by
  have:=vP (a:=a) (i:=i)
  simp only[ko]
  split<;>simp<;>omega
abbrev uA(a:List (List UInt8)):List (List UInt8):=ko a a.length
theorem oH{a:List (List UInt8)}{x:List UInt8}:x∈uA a↔x∈a:=by
 rw[vO (aaZ _),abO]
def Dt(a b:List (List UInt8)):Nat:=(uA a).countP (fun x=>decide (x∈b))
theorem ud{a b:List (List UInt8)}(ha:a.length≤1000000000)(hb:b.length≤1000000000):eA FU a b=some ((Dt a b:Nat):Int):=by
 unfold eA
 obtain⟨t,h1,h2⟩:=bF (σ:=Int×Int) (f:=fun s=>gX FU a b s.1 s.2) (I:=fun k s=>∃ j:Nat,s.2=j∧j+k=a.length∧s.1=(((ko a j).countP (fun x=>decide (x∈b)):Nat):Int))
  (Q:=fun t:Int=>t=((Dt a b:Nat):Int)) (by
   rintro k ⟨v,c⟩ ⟨j,h1,h2,h3⟩
   dsimp only at h1 h3
   subst h1 h3
   simp only[gX]
   by_cases hk:k=0
   ·right
    obtain rfl:j=a.length:=by omega
    exact⟨((Dt a b:Nat):Int),by rw[aa7 (by simp)];rfl,rfl⟩
   ·left
    have hj:j<a.length:=by omega
    have hc:(ko a j).countP (fun x=>decide (x∈b))≤j:=abE aep vP
    rw[aa2 (by simp;omega),bz [] hj]
    simp only[aaQ]
    rw[OD hb,Ap]
    simp only[aaQ]
    have hs:oR a 0 (j:Int)=some (a.take j):=by rw[Be (by omega) (by omega) (by omega)];simp
    rw[hs,cv hj (by simp only[ML];omega)]
    by_cases hm:a.getD j []∈b
    ·simp only[hm,abo,abh,aaQ]
     rw[OD (by rw[abI];omega),Ap]
     simp only[aaQ]
     by_cases hf:a.getD j []∈a.take j
     ·simp only[hf,abo,abt,ac5,aaU,abb,aaQ]
      exact⟨_,k-1,rfl,by omega,j+1,rfl,by omega,by simp only[ko,aa2 hf]⟩
     ·simp only[hf,abx,abw,adB,abh,aaQ]
      refine⟨_,k-1,rfl,by omega,j+1,rfl,by omega,?_⟩
      simp only[ko,aa7 hf,List.countP_append,List.countP_singleton,hm,abo,abh]
      rw[jT (by omega) (by omega)];omega
    ·simp only[hm,abx,adq,aaU,abb,aaQ]
     refine⟨_,k-1,rfl,by omega,j+1,rfl,by omega,?_⟩
     simp only[ko]
     split
     ·rfl
     ·simp only[List.countP_append,List.countP_singleton,hm,abx,aaU,abb,acy]) a.length FU ((0:Int),(0:Int)) ⟨0,rfl,by omega,by simp[ko]⟩ (by simp only[FU];omega)
 rw[h1,aaQ,h2]
theorem GP(a:List (List UInt8)):Dt a a=(uA a).length:=by
 unfold Dt
 rw[List.countP_eq_length]
 intro x hx
 simp[oH.1 hx]
theorem IB(a b:List (List UInt8)):Dt a b≤a.length:=abE aep vP
theorem JS(a b:List (List UInt8)):decide ((0:Int)<((Dt a b:Nat):Int))=tN a b:=by
 rw[abG,D7,abe]
 unfold Dt
 rw[show((0:Int)<((List.countP (fun x=>decide (x∈b)) (uA a):Nat):Int))↔0<List.countP (fun x=>decide (x∈b)) (uA a) by omega,List.countP_pos_iff]
 constructor
 ·rintro⟨x,hx,h⟩;exact⟨x,oH.1 hx,by simpa using h⟩
 ·rintro⟨x,hx,h⟩;exact⟨x,oH.2 hx,by simpa using h⟩
theorem Q7(a b:List (List UInt8)):Dt a b=Dt b a:=by
 unfold Dt
 rw[acA,acA]
 exact(o8 ((lI (aaZ _)).filter _) ((lI (aaZ _)).filter _) (fun x=>by
  simp only[abT,oH,abe];exact And.comm)).length_eq
theorem yI{M:WM}{a b:List (List UInt8)}(h:wI M (vv a b))(k:List UInt8):k∈M.map (·.1)↔k∈a∨k∈b:=by
 have h1:=CX (m:=M) (k:=k)
 rw[h.2] at h1
 unfold vv bt at h1
 by_cases ha:k∈a<;>by_cases hb:k∈b<;>simp[ha,hb] at h1 ⊢<;>simpa using h1
theorem Lj{M:WM}{a b:List (List UInt8)}(h:wI M (vv a b)):M.length+Dt a b=(uA a).length+(uA b).length:=by
 have p:=o8 (l:=M.map (·.1)) (m:=uA a++(uA b).filter (fun x=>decide (x∉a))) h.1 (by
  rw[ad_]
  refine⟨lI (aaZ _),(lI (aaZ _)).filter _,fun x hx y hy e=>?_⟩
  subst e
  simp only[abT,abe] at hy
  exact hy.2 (oH.1 hx)) (fun x=>by
  rw[yI h,ab',abT,oH,oH,abe]
  by_cases hx:x∈a<;>simp[hx])
 have:=p.length_eq
 rw[aa4,aa9,←List.countP_eq_length_filter] at this
 rw[this,Q7]
 unfold Dt
 have h2:=List.length_eq_countP_add_countP (fun x=>decide (x∈a)) (l:=uA b)
 have e:List.countP (fun x=>decide (x∉a)) (uA b)=List.countP (fun x=>decide ¬(decide (x∈a))=true) (uA b):=by
  congr 1;funext x;simp
 omega
theorem Lk{M:WM}{a b:List (List UInt8)}(h:wI M (vv a b)):M.countP (fun e=>decide (e.2=3))=Dt a b:=by
 rw[HP h]
 unfold Dt
 rw[acA,acA]
 refine(o8 (h.1.filter _) ((lI (aaZ _)).filter _) (fun x=>?_)).length_eq
 simp only[abT,oH,abe,yI h]
 unfold vv bt
 by_cases ha:x∈a<;>by_cases hb:x∈b<;>simp[ha,hb]
theorem Ux{a b:List (List UInt8)}(ha:a.length≤1000)(hb:b.length≤1000)(h0:0<a.length):
  decide ((IntKind.i64.wrap ((3:Int)*(IntKind.i64.wrap ((IntKind.i64.wrap (((Dt a a:Nat):Int)+((Dt b b:Nat):Int)))-((Dt a b:Nat):Int)))))≤(IntKind.i64.wrap ((4:Int)*((Dt a b:Nat):Int))))=cw a b:=by
 obtain⟨M,h1,h2⟩:=uI (a:=a) (b:=b) (by omega) (by omega)
 unfold cw
 rw[h2,Lk h1]
 have e1:=Lj h1
 have l1:=IB a b
 have l2:=IB a a
 have l3:=IB b b
 rw[GP] at l2 l3 ⊢
 rw[GP]
 have qx:0<M.length:=by
  rcases adY M.length with h|h
  ·have hM:M=[]:=acY.1 h
   have:=(yI h1 (a.getD 0 [])).2 (.inl (by simp[h0]))
   rw[hM] at this;cases this
  ·exact h
 rw[jT (x:=((uA a).length:Int)+((uA b).length:Int)) (by omega) (by omega),jT (x:=((uA a).length:Int)+((uA b).length:Int)-((Dt a b:Nat):Int)) (by omega) (by omega),jT (x:=3*_) (by omega) (by omega),jT (by omega) (by omega),jT (by omega) (by omega)]
 simp only[aci]
 rw[show decide ((0:Int)<(M.length:Int))=true from abm (by omega),ab1,abH]
 omega
theorem zero_or{α β:Type}{a:List α}{b:List β}:((decide ((a.length:Int)=(0:Int)))||(decide ((b.length:Int)=(0:Int))))=!decide (0<a.length∧0<b.length):=by
 rw[abG];simp only[abU,abe,abC,decide_eq_false_iff_not];omega
theorem xw{a b:List (List UInt8)}(ha:a.length≤1000000000):fD FU a b=some (decide (a=b)):=by
 unfold fD
 by_cases hl:a.length=b.length
 ·rw[aa7 (by simp[hl]),fh a.length FU (fun i=>!decide (a.getD i []=b.getD i [])) (.inl false) (.inr ()) (fun j hj=>by
   unfold fp
   rw[aa2 (by simp;omega),bz [] hj,aaQ,bz [] (by omega),aaQ,cv hj (by simp only[ML];omega)]
   cases decide (a.getD j []=b.getD j [])<;>rfl) (by unfold fp;simp) (by simp only[FU];omega)]
  by_cases h:gQ a.length (fun i=>!decide (a.getD i []=b.getD i []))=true
  ·rw[aa2 h]
   obtain⟨i,hi,h2⟩:=mW.1 h
   have:a≠b:=fun e=>by subst e;simp at h2
   simp[this]
  ·rw[aa7 h]
   have h':=uZ.1 (by simpa using h)
   have:a=b:=FH [] hl (fun i hi=>by have:=h' i hi;simpa using this)
   simp[this]
 ·rw[aa2 (by simp;omega)]
  have:a≠b:=fun e=>hl (by rw[e])
  simp[this]
theorem Ll(l:List (List UInt8))(x:List UInt8)(h:l≠[]):Lib.join (l++[x]) [32]=Lib.join l [32]++[32]++x:=by
 cases l with
 |nil=>exact absurd rfl h
 |cons y r=>
  rw[adt,Lib.join_cons,Lib.join_cons]
  simp[Lib.joinTail,abk]
theorem yJ{l l':List UInt8}(h:l.length+l'.length≤9223372036854775807):J2 l l'=some (l++l'):=by rw[J2,aa2 h]
theorem Du{l:List (List UInt8)}(h:l.length≤200)(hw:∀ w∈l,w.length≤400):iT FU l=some (jn l):=by
 unfold iT
 have small:∀ j,(jn (l.take j)).length≤100000:=fun j=>xW (by rw[abI];omega) (fun w lN=>hw w (adN lN))
 obtain⟨t,h1,h2⟩:=bF (σ:=List UInt8×Int) (f:=fun s=>gY FU l s.1 s.2) (I:=fun k s=>∃ j:Nat,s.2=j∧j+k=l.length∧s.1=jn (l.take j)) (Q:=fun t=>t=jn l) (by
   rintro k ⟨v,c⟩ ⟨j,h1,h2,h3⟩
   dsimp only at h1 h3
   subst h1 h3
   simp only[gY]
   by_cases hk:k=0
   ·right
    obtain rfl:j=l.length:=by omega
    exact⟨_,by rw[aa7 (by simp)],by rw[abO]⟩
   ·left
    have hj:j<l.length:=by omega
    have s1:=small j
    have s2:(l.getD j []).length≤400:=hw _ (by simp[hj])
    rw[aa2 (by simp;omega),bz [] hj,cv hj (by simp only[ML];omega)]
    simp only[aaQ]
    by_cases h0:j=0
    ·subst h0
     rw[aa7 (by simp),aaQ,yJ (l:=jn (l.take 0)) (l':=l.getD 0 []) (by omega),aaQ]
     refine⟨_,k-1,rfl,by omega,1,rfl,by omega,?_⟩
     rw[dA [] hj]
     simp[jn,Lib.join_nil,Lib.join_one]
    ·rw[aa2 (by simp only[abe];omega),yJ (l:=jn (l.take j)) (l':=[32]) (by simp only[abp,ada];omega),aaQ,aaQ,yJ (l:=jn (l.take j)++[32]) (l':=l.getD j []) (by simp only[aa9,abp,ada];omega),aaQ]
     refine⟨_,k-1,rfl,by omega,j+1,rfl,by omega,?_⟩
     rw[dA [] hj]
     unfold jn
     rw[Ll _ _ (by intro e;have:=adg List.length e;rw[abI,ada] at this;omega)]) l.length FU (([]:List UInt8),(0:Int)) ⟨0,rfl,by omega,rfl⟩ (by simp only[FU];omega)
 rw[h1,aaQ,h2]
theorem OE{a b:List (List UInt8)}(ha:a.length≤200)(hb:b.length≤200)(wa:∀ w∈a,w.length≤400)(wb:∀ w∈b,w.length≤400):me FU a b=some (cT a b):=by
 unfold me cT
 rw[ud (by omega) (by omega),aaQ,ud (by omega) (by omega),aaQ,ud (by omega) (by omega),aaQ]
 by_cases h0:0<a.length∧0<b.length
 ·rw[zero_or,aa7 (by simp[h0.1,h0.2]),aa2 h0,xw (by omega),aaQ,Ux (by omega) (by omega) h0.1]
  by_cases he:a=b
  ·simp[he,y7]
  ·simp only[he,abx,aaU,abb]
   cases hc:cw a b with
   |true=>simp[y7]
   |false=>
    have j1:=xW ha wa
    have j2:=xW hb wb
    obtain⟨v,h1,h2⟩:=B_ (a:=jn a) (b:=jn b) (by omega) (by omega)
    simp only[abw,abh,ab5]
    rw[Du ha wa,aaQ,Du hb wb,aaQ,h1,aaQ,h2]
    cases nr (jn a) (jn b)<;>rfl
 ·rw[zero_or,aa2 (by simp only[abF h0,abw]),aa7 h0]
theorem Lm{a b:List UInt8}(ha:a.length≤1000000000)(hb:b.length≤1000000000):k7 FU a b=some (cA a b):=by
 unfold k7 cA
 by_cases h0:a≠[]∧b≠[]
 ·rw[aa7 (by simp[h0.1,h0.2]),aa2 h0]
  by_cases he:a=b
  ·simp[he,y7]
  ·simp only[he,abx,aaU,abb]
   obtain⟨v,h1,h2⟩:=B_ ha hb
   rw[h1,aaQ,h2]
   cases nr a b<;>rfl
 ·rw[aa2 (by
   by_cases h1:a=[]
   ·simp[h1]
   ·have:b=[]:=Classical.byContradiction fun h2=>h0 ⟨h1,h2⟩
    simp[this]),aa7 h0]
theorem Aq{a b:List (List UInt8)}(ha:a.length≤1000000000)(hb:b.length≤1000000000)(w:Bool)(z:Int):
  gZ FU a b w z=some (if 0<a.length∧0<b.length then (if (w&&decide (a=b)||!w&&tN a b)=true then 1 else if tN a b=true then z else 3) else 0):=by
 unfold gZ
 rw[ud ha hb,xw ha]
 simp only[aaQ,JS]
 by_cases h0:0<a.length∧0<b.length
 ·rw[zero_or,aa7 (by simp[h0.1,h0.2]),aa2 h0]
  cases w with
  |false=>simp only[aaU,abb,aaQ,adq,abw,ac0,abh,ab5,ab1,JS]
          cases tN a b<;>rfl
  |true=>
   by_cases he:a=b
   ·simp[he]
   ·simp only[he,abh,abx,ac5,abw,abt,aaU,abb,aaQ,adq,aco]
    cases tN a b<;>rfl
 ·rw[zero_or,aa2 (by simp only[abF h0,abw]),aa7 h0]
def LH(b:List Int)(x:Int):Bool:=b.any fun y=>decide (x-y=1)||decide (x-y=-1)
theorem OF{a b:List Int}{i:Nat}{s0:Int}(hi:i<a.length)(hb:b.length≤1000000000)(ra:∀ x∈a,1000≤x∧x≤2999)(rb:∀ x∈b,1000≤x∧x≤2999):
  iter FU (fun s=>ga FU a b (i:Int) s.1 s.2) (s0,(0:Int))=some (if a.getD i 0∈b then .inl 1 else .inr (if LH b (a.getD i 0)=true then 2 else s0)):=by
 have hx:=ra (a.getD i 0) (by simp[hi])
 obtain⟨t,h1,h2⟩:=bF (σ:=Int×Int) (f:=fun s=>ga FU a b (i:Int) s.1 s.2) (I:=fun k s=>∃ j:Nat,s.2=j∧j+k=b.length∧a.getD i 0∉b.take j∧s.1=if LH (b.take j) (a.getD i 0)=true then 2 else s0)
  (Q:=fun t:Int⊕Int=>t=if a.getD i 0∈b then .inl 1 else .inr (if LH b (a.getD i 0)=true then 2 else s0)) (by
   rintro k ⟨v,c⟩ ⟨j,h1,h2,h3,h4⟩
   dsimp only at h1 h4
   subst h1 h4
   simp only[ga]
   by_cases hk:k=0
   ·right
    obtain rfl:j=b.length:=by omega
    rw[abO] at h3
    exact⟨_,by rw[aa7 (by simp)],by rw[abO,aa7 h3]⟩
   ·have hj:j<b.length:=by omega
    have hy:=rb (b.getD j 0) (by simp[hj])
    rw[aa2 (by simp;omega),bz 0 hi,aaQ,bz 0 hj,aaQ,cv hj (by simp only[ML];omega),jT (x:=a.getD i 0-b.getD j 0) (by omega) (by omega)]
    by_cases e:a.getD i 0=b.getD j 0
    ·right
     rw[aa2 (by simp only[abe];omega)]
     exact⟨_,rfl,by rw[aa2 (by rw[e];simp[hj])]⟩
    ·left
     rw[aa7 (by simp only[abe];omega)]
     have hn:LH (b.take (j+1)) (a.getD i 0)=(LH (b.take j) (a.getD i 0)||(decide (a.getD i 0-b.getD j 0=1)||decide (a.getD i 0-b.getD j 0=-1))):=by
      unfold LH
      rw[dA 0 hj];simp
     have hm:a.getD i 0∉b.take (j+1):=by
      rw[dA 0 hj,ab',ab0]
      rintro(h|h)
      ·exact h3 h
      ·exact e h
     by_cases d:(decide (a.getD i 0-b.getD j 0=1)||decide (a.getD i 0-b.getD j 0=-1))=true
     ·rw[aa2 d]
      exact⟨_,k-1,rfl,by omega,j+1,rfl,by omega,hm,by rw[hn,d];simp⟩
     ·rw[aa7 d]
      exact⟨_,k-1,rfl,by omega,j+1,rfl,by omega,hm,by rw[hn,acW.2 d];simp⟩) b.length FU (s0,(0:Int)) ⟨0,rfl,by omega,by simp,by simp[LH]⟩ (by simp only[FU];omega)
 rw[h1,h2]
theorem Q8{a b:List Int}(ha:a.length≤1000000000)(hb:b.length≤1000000000)(ra:∀ x∈a,1000≤x∧x≤2999)(rb:∀ x∈b,1000≤x∧x≤2999):mf FU a b=some (cY a b):=by
 unfold mf cY
 by_cases h0:0<a.length∧0<b.length
 ·rw[zero_or,aa7 (by simp[h0.1,h0.2]),aa2 h0]
  obtain⟨t,h1,h2⟩:=bF (σ:=Int×Int) (f:=fun s=>iX FU a b s.1 s.2) (I:=fun k s=>∃ j:Nat,s.2=j∧j+k=a.length∧(∀ x∈a.take j,x∉b)∧s.1=if (a.take j).any (LH b)=true then 2 else 3)
   (Q:=fun t:Int⊕Int=>(match t with|.inl u=>u|.inr u=>u)=y7 (tN a b) (OU a b)) (by
    rintro k ⟨v,c⟩ ⟨j,h1,h2,h3,h4⟩
    dsimp only at h1 h4
    subst h1 h4
    simp only[iX]
    by_cases hk:k=0
    ·right
     obtain rfl:j=a.length:=by omega
     rw[abO] at h3
     refine⟨_,by rw[aa7 (by simp)],?_⟩
     have hc:tN a b=false:=by
      rw[acW,ne_eq,D7]
      rintro⟨x,h5,h6⟩;exact h3 x h5 h6
     have hn:a.any (LH b)=OU a b:=by
      rw[abG,P6 ra,acd]
      simp only[LH,acd,abU,abe]
      exact⟨fun⟨x,h5,y,h6,h7⟩=>⟨x,h5,y,h6,by omega⟩,fun⟨x,h5,y,h6,h7⟩=>⟨x,h5,y,h6,by omega⟩⟩
     simp only[abO]
     rw[hc,hn]
     cases OU a b<;>rfl
    ·have hj:j<a.length:=by omega
     rw[aa2 (by simp;omega),OF hj hb ra rb,aaQ,cv hj (by simp only[ML];omega)]
     by_cases hm:a.getD j 0∈b
     ·right
      simp only[aa2 hm]
      refine⟨_,rfl,?_⟩
      have hc:tN a b=true:=D7.2 ⟨a.getD j 0,by simp[hj],hm⟩
      rw[hc];rfl
     ·left
      simp only[aa7 hm]
      refine⟨_,k-1,rfl,by omega,j+1,rfl,by omega,fun x hx=>?_,?_⟩
      ·rw[dA 0 hj,ab',ab0] at hx
       rcases hx with hx|hx
       ·exact h3 x hx
       ·rw[hx];exact hm
      ·rw[dA 0 hj,List.any_append]
       simp only[List.any_cons,List.any_nil,Bool.or_false]
       cases (a.take j).any (LH b)<;>cases LH b (a.getD j 0)<;>rfl) a.length FU ((3:Int),(0:Int)) ⟨0,rfl,by omega,by simp,by simp⟩ (by simp only[FU];omega)
  rw[h1,aaQ]
  cases t<;>simp only at h2 ⊢<;>rw[h2]
 ·rw[zero_or,aa2 (by simp only[abF h0,abw]),aa7 h0]
theorem Ln{f g:af}(hf:FV f)(hg:FV g):jR FU f g=some (cmp f g):=by
 have h1:=hf.t;have h2:=hg.t;have h3:=hf.a;have h4:=hg.a;have h5:=hf.y;have h6:=hg.y;have h7:=hf.i;have h8:=hg.i;have h9:=hf.l;have h10:=hg.l;have h11:=hf.p;have h12:=hg.p;have h13:=hf.e;have h14:=hg.e
 unfold jR cmp
 rw[OE hf.t hg.t hf.tw hg.tw,aaQ,Lm (by omega) (by omega),aaQ,Q8 (by omega) (by omega) hf.yr hg.yr,aaQ,Aq (by omega) (by omega),aaQ,Aq (by omega) (by omega),aaQ,
  Aq (by omega) (by omega),aaQ,Aq (by omega) (by omega),aaQ]
 have eS:∀ a b:List (List UInt8),(if 0<a.length∧0<b.length then (if (false&&decide (a=b)||!false&&tN a b)=true then 1 else if tN a b=true then 1 else 3) else 0:Int)=cS a b:=fun a b=>by
  unfold cS;cases tN a b<;>simp[y7]
 have eP:∀ a b:List (List UInt8),(if 0<a.length∧0<b.length then (if (true&&decide (a=b)||!true&&tN a b)=true then 1 else if tN a b=true then 2 else 3) else 0:Int)=cP a b:=fun a b=>by
  unfold cP;cases decide (a=b)<;>cases tN a b<;>simp[y7]
 have eE:∀ a b:List (List UInt8),(if 0<a.length∧0<b.length then (if (true&&decide (a=b)||!true&&tN a b)=true then 1 else if tN a b=true then 3 else 3) else 0:Int)=cE a b:=fun a b=>by
  unfold cE;cases decide (a=b)<;>cases tN a b<;>simp[y7]
 rw[eS,eS,eP,eE]
end Go.Proofs.YtjdnbobilgamdaaGreatDoor.Ab.um
end
section
namespace Go.Proofs.YtjdnbobilgamdaaGreatDoor.Ab.um
open Go
theorem Cw{f g:af}(hf:I7 f)(hg:I7 g):jS FU f g=some (if (fv f&&fv g)=true then (cmp f g,0) else (⟨0,0,0,0,0,0,0⟩,1)):=by
 unfold jS
 rw[EP hf,EP hg]
 cases YS:fv f with
 |false=>simp
 |true=>
  cases YT:fv g with
  |false=>simp
  |true=>
   simp only[aaQ,abt,abw,abh,aco,aaU,abb,ac0]
   rw[Ln (wL YS) (wL YT)]
   rfl
end Go.Proofs.YtjdnbobilgamdaaGreatDoor.Ab.um
end
section
namespace Go.Proofs.YtjdnbobilgamdaaGreatDoor.Ab.U
open Go
open um (fv I7 FB cmp)
open JN (km GY)
theorem ET{α:Type}{l:List α}{j:Nat}(h:j<l.length):ix l (j:Int)=some l[j]:=by simp[ix,h]
theorem rP{α:Type}{l:List α}{j:Nat}(h:j<l.length):l.take (j+1)=l.take j++[l[j]]:=by
 rw[acD];simp[h]
theorem getD_at{α:Type}{l:List α}{k:Nat}{d:α}(h:k<l.length):l.getD k d=l[k]:=by simp[h]
theorem GQ{α:Type}{l:List α}{j:Nat}(h:j≤l.length):oR l 0 (j:Int)=some (l.take j):=by
 unfold oR;rw[aa2 (by omega)];simp
theorem OH{α:Type}{l:List α}{j:Nat}(h:j≤l.length):oR l (j:Int) (l.length:Int)=some (l.drop j):=by
 unfold oR;rw[aa2 (by omega)];simp
def no0:af×Bool:=(⟨0,[],[],[],[],[],[],[]⟩,false)
def zN(l:List af)(a:Int):af×Bool:=match l.find? (fun f=>decide (f.nU=a)) with|some f=>(f,true)|none=>no0
theorem OI{l:List af}{a:Int}{i:Nat}(h:i<l.length)(h1:l[i].nU=a)(h2:∀ j (hj:j<i),¬(l[j]'(by omega)).nU=a):zN l a=(l[i],true):=by
 unfold zN
 rw[List.find?_eq_some_iff_getElem.2 ⟨by simpa using h1,i,h,rfl,fun j hj=>by simpa using h2 j hj⟩]
theorem OJ{l:List af}{a:Int}(h:∀ j (hj:j<l.length),¬l[j].nU=a):zN l a=no0:=by
 unfold zN
 rw[List.find?_eq_none.2 fun x hx=>by
  obtain⟨i,hi,rfl⟩:=acn hx
  simpa using h i hi]
theorem Rc{l:List af}{a:Int}:(zN l a).2=decide (a∈l.map af.nU):=by
 unfold zN
 cases h:l.find? (fun f=>decide (f.nU=a)) with
 |some f=>
  have h1:=List.mem_of_find?_eq_some h
  have h2:f.nU=a:=by simpa using List.find?_some h
  exact(abm (abS.2 ⟨f,h1,h2⟩)).symm
 |none=>
  refine(abF fun hm=>?_).symm
  obtain⟨f,h1,h2⟩:=abS.1 hm
  exact absurd (List.find?_eq_none.1 h f h1) (by simp[h2])
theorem JU{l:List af}{a:Int}(hl:l.length≤1000):gH FU l a=some (zN l a):=by
 unfold gH aP
 rcases lk (f:=fun s=>az FU l (fun y1=>gV FU y1 a) s) l.length (fun j=>decide ((l.getD j default).nU=a)) (fun j=>.inl (j:Int)) (.inr ()) l.length 0 FU 0 (by omega) (fun j hj=>by
  simp only[az,gV]
  rw[aa2 (abm (by omega)),bz default hj,aaQ,aaQ,cv hj (by simp only[ML];omega)]
  split<;>rfl) (by simp[az]) (by simp only[FU];omega) rfl with ⟨i,_,h2,h3,h4,h5⟩|⟨h1,h2⟩
 ·rw[h5]
  simp only[aaQ]
  rw[getD_at h2] at h3
  rw[aa7 (by simp),ET h2,OI h2 (acC h3) fun j hj=>by
   have:=h4 j (acp _) hj
   rw[getD_at (by omega)] at this
   exact adU this]
  rfl
 ·rw[h2]
  simp only[aaQ]
  rw[aa2 (by decide),OJ fun j hj=>by
   have:=h1 j (acp _) hj
   rw[getD_at hj] at this
   exact adU this]
  rfl
theorem B'{l:List af}{a:Int}(hl:l.length≤1000):jt FU l a=some (zN l a):=by
 unfold jt
 rcases lk (f:=fun s=>gI FU l a s) l.length (fun j=>decide ((l.getD j default).nU=a)) (fun j=>.inl (l.getD j default,true)) (.inr ()) l.length 0 FU 0 (by omega) (fun j hj=>by
  simp only[gI]
  rw[aa2 (abm (by omega)),bz default hj,aaQ,aaQ,cv hj (by simp only[ML];omega)]
  split<;>rfl) (by simp[gI]) (by simp only[FU];omega) rfl with ⟨i,_,h2,h3,h4,h5⟩|⟨h1,h2⟩
 ·rw[h5]
  rw[getD_at h2] at h3
  rw[getD_at h2,OI h2 (acC h3) fun j hj=>by
   have:=h4 j (acp _) hj
   rw[getD_at (by omega)] at this
   exact adU this]
  rfl
 ·rw[h2,OJ fun j hj=>by
   have:=h1 j (acp _) hj
   rw[getD_at hj] at this
   exact adU this]
  rfl
theorem Lp:nX FU=some um.WK:=by decide+kernel
noncomputable def CM(f g:af):A7:=(if (fv f&&fv g)=true then (cmp f g,(0:Int)) else (⟨0,0,0,0,0,0,0⟩,1)).1
noncomputable def WT(o:A7):Int:=(if (um.FJ um.WK&&um.CZ o)=true then (um.wt (um.GU um.WK o),(0:Int)) else (0,1)).1
def GR(c:List ae)(a:Int):List Int:=(if km c=true then (GY c a,(0:Int)) else ([],1)).1
def z7:A7:=⟨0,0,0,0,0,0,0⟩
noncomputable def X0(l:List af)(x:aB):Bool:=((zN l x.fA).2&&(zN l x.fB).2)&&(decide (CM (zN l x.fA).1 (zN l x.fB).1=x.bD)&&(decide (WT (CM (zN l x.fA).1 (zN l x.fB).1)=x.fO)&&decide (0<WT (CM (zN l x.fA).1 (zN l x.fB).1))))
noncomputable def Hd(l:List af)(c:List ae)(x:aB):Bool:=!decide (x.fA=x.fB)&&(if x.mD=true then (decide (x.fB∈GR c x.fA)&&decide (x.bD=z7))&&decide (x.fO=0) else X0 l x)
theorem OK{c:List ae}{a:Int}(hc:c.length≤1000):(GR c a).length≤10000:=by
 unfold GR
 have:=JN.JQ c a
 split
 ·dsimp only;omega
 ·simp
theorem Ap{l:List Int}{a:Int}:(l.any fun y=>decide (a=y))=decide (a∈l):=by
 rw[abG,acd,decide_eq_true_iff]
 exact⟨fun⟨x,h1,h2⟩=>by rw[acC h2];exact h1,fun h=>⟨a,h,by simp⟩⟩
theorem Re{x:aB}(hm:x.mD=false){o:A7}{w:Int}:decide (x=⟨x.fA,x.fB,false,o,w⟩)=(decide (o=x.bD)&&decide (w=x.fO)):=by
 cases x
 simp only at hm
 subst hm
 rw[abG]
 simp only[aB.mk.injEq,true_and,aaT,abe]
 exact⟨fun⟨h1,h2⟩=>⟨h1.symm,h2.symm⟩,fun⟨h1,h2⟩=>⟨h1.symm,h2.symm⟩⟩
section
variable {l:List af}{c:List ae}{x:aB}(hl:l.length≤1000)(hc:c.length≤1000)(hf:∀ f∈l,I7 f)
include hl hf
omit hl in
theorem Ar{a:Int}(h:(zN l a).2=true):I7 (zN l a).1:=by
 unfold zN at h ⊢
 cases e:l.find? (fun f=>decide (f.nU=a)) with
 |some f=>exact hf f (List.mem_of_find?_eq_some e)
 |none=>rw[e] at h;cases h
include hc
theorem OL:iR FU l c x=some (Hd l c x):=by
 unfold iR Hd
 by_cases h0:x.fA=x.fB
 ·rw[aa2 (abm h0),abm h0];rfl
 ·rw[aa7 (by simp[h0]),abF h0]
  cases hm:x.mD with
  |true=>
   rw[aa2 rfl,aa2 rfl]
   have hg:iQ FU c x.fA=some (GR c x.fA):=by
    unfold iQ
    rw[JN.Ow (by decide)]
    rfl
   have:=OK (a:=x.fA) hc
   rw[hg,aaQ,um.tM (by simp only[ML];omega) (by simp only[FU];omega),aaQ,Ap]
   rfl
  |false=>
   rw[aa7 (by simp),aa7 (by simp)]
   unfold iu X0
   rw[JU hl,aaQ,JU hl,aaQ]
   cases h1:(zN l x.fA).2 with
   |false=>rfl
   |true=>
    cases h2:(zN l x.fB).2 with
    |false=>rfl
    |true=>
     rw[aa7 (by simp),um.HR (Ar hf h1) (Ar hf h2),aaQ,um.MN,aaQ,um.KA,aaQ,aaQ]
     show some (decide (0<WT (CM _ _))&&decide (x=⟨x.fA,x.fB,false,CM _ _,WT (CM _ _)⟩))=_
     rw[Re hm,Bool.and_comm,aew]
     rfl
theorem Lq:mg FU l c x=some (Hd l c x):=by
 unfold mg Hd
 by_cases h0:x.fA=x.fB
 ·rw[aa2 (abm h0),abm h0];rfl
 ·rw[aa7 (by simp[h0]),abF h0]
  cases hm:x.mD with
  |true=>
   rw[aa2 rfl,aa2 rfl]
   unfold pe
   have:=OK (a:=x.fA) hc
   rw[JN.GN hc (by decide),aaQ,show(if km c=true then (GY c x.fA,(0:Int)) else ([],1)).1=GR c x.fA from rfl,JN.Iu (by omega) (by decide)]
   rfl
  |false=>
   rw[aa7 (by simp),aa7 (by simp)]
   unfold nY X0
   rw[B' hl,aaQ,B' hl,aaQ]
   cases h1:(zN l x.fA).2 with
   |false=>rfl
   |true=>
    cases h2:(zN l x.fB).2 with
    |false=>rfl
    |true=>
     rw[aa7 (by simp),um.Cw (Ar hf h1) (Ar hf h2),aaQ,Lp,aaQ,um.Ef,aaQ,aaQ]
     show some (((true&&decide (CM _ _=x.bD))&&decide (WT (CM _ _)=x.fO))&&decide (0<WT (CM _ _)))=_
     rw[ab1,aew]
     rfl
end
noncomputable def walk(l:List af)(c:List ae):Int→List aB→Option Int
 |a,[]=>some a
 |a,x::r=>if (decide (x.fA=a)&&Hd l c x)=true then walk l c x.fB r else none
theorem xx{l:List af}{c:List ae}:∀ {p q:List aB} {a:Int},walk l c a (p++q)=(walk l c a p).bind fun u=>walk l c u q
 |[],_,_=>rfl
 |x::p,q,a=>by
  simp only[adt,walk]
  split
  ·exact xx
  ·rfl
theorem Dv{l:List af}{c:List ae}{k:List aB}{f:Int×Int→Option ((Int×Int)⊕(Int⊕Int))}(hk:k.length<FU)
  (hf:∀ a j (h:j<k.length),f (a,(j:Int))=some (if (decide (k[j].fA=a)&&Hd l c k[j])=true then .inl (k[j].fB,((j+1:Nat):Int)) else .inr (.inl 17)))(he:∀ a,f (a,(k.length:Int))=some (.inr (.inr a)))(a:Int):
  iter FU f (a,0)=some (match walk l c a k with|some u=>.inr u|none=>.inl 17):=by
 have key:∀ (m j n:Nat) (a:Int),j+m=k.length→m<n→iter n f (a,(j:Int))=some (match walk l c a (k.drop j) with|some u=>.inr u|none=>.inl 17):=by
  intro m
  induction m with
  |zero=>
   intro j n a hj hn
   obtain⟨n,rfl⟩:∃ q,n=q+1:=⟨n-1,by omega⟩
   rw[acI (by omega),iter,show(j:Int)=(k.length:Int) by omega,he];rfl
  |succ m ih=>
   intro j n a hj hn
   obtain⟨n,rfl⟩:∃ q,n=q+1:=⟨n-1,by omega⟩
   have h:j<k.length:=by omega
   rw[ab7 h,iter,hf a j h,walk]
   split
   ·exact ih (j+1) n _ (by omega) (by omega)
   ·rfl
 exact key k.length 0 FU a (by omega) hk
section
variable {κ ν:Type}[DecidableEq κ]
theorem gL(x:κ×ν)(m:List (κ×ν))(k:κ):ft (x::m) k=if k=x.1 then some x.2 else ft m k:=by
 unfold ft
 rw[e_]
 by_cases h:k=x.1
 ·simp[h]
 ·rw[aa7 h,aa7 h]
  cases e_ m k with
  |none=>rfl
  |some j=>simp
theorem yG(x:κ×ν)(m:List (κ×ν))(k:κ)(v:ν):jl (x::m) k v=if k=x.1 then (k,v)::m else x::jl m k v:=by
 unfold jl
 rw[e_]
 by_cases h:k=x.1
 ·simp[h]
 ·rw[aa7 h,aa7 h]
  cases e_ m k with
  |none=>rfl
  |some j=>simp
theorem uc(m:List (κ×ν))(k k':κ)(v:ν):ft (jl m k v) k'=if k'=k then some v else ft m k':=by
 induction m with
 |nil=>show ft [(k,v)] k'=_;rw[gL]
 |cons x m ih=>
  rw[yG]
  by_cases h:k=x.1
  ·rw[aa2 h,gL,gL]
   dsimp only
   by_cases h2:k'=k
   ·rw[aa2 h2,aa2 h2]
   ·rw[aa7 h2,aa7 h2,aa7 (fun h3=>h2 (h3.trans h.symm))]
  ·rw[aa7 h,gL,gL,ih]
   by_cases h2:k'=x.1
   ·rw[aa2 h2,aa2 h2,aa7 (fun h3=>h (h3.symm.trans h2))]
   ·rw[aa7 h2,aa7 h2]
end
def xz(l:List Int):List (Int×Bool):=l.foldl (fun m x=>jl m x true) []
theorem Dw(a:Int):∀ (l:List Int) (m:List (Int×Bool)),(ft (l.foldl (fun m x=>jl m x true) m) a).getD false=(decide (a∈l)||(ft m a).getD false)
 |[],m=>by simp
 |x::l,m=>by
  rw[adA,Dw a l,uc]
  by_cases h:a=x
  ·subst h;simp
  ·simp[h]
theorem OM(l:List Int)(a:Int):(ft (xz l) a).getD false=decide (a∈l):=by
 unfold xz
 rw[Dw]
 have:ft ([]:List (Int×Bool)) a=none:=rfl
 rw[this];simp
def yK(l:List af)(j:Nat):Bool:=decide ((l.getD j default).nU∈(l.take j).map af.nU)
noncomputable def VL(l:List af)(c:List ae):Bool:=km c&&(!(l.any fun f=>!fv f)&&!gQ l.length (yK l))
noncomputable def cR(l:List af)(c:List ae)(a b:Int)(k:List aB):Int:=
 if VL l c=true then (if (decide (a=b)&&decide (0<k.length))=true then 17 else match walk l c a k with|some u=>if u=b then 0 else 17|none=>17) else 1
theorem Rf{m:Nat}{p q:Nat→Bool}:gQ m (fun i=>p i||q i)=(gQ m p||gQ m q):=by
 rw[abG,abU,mW,mW,mW]
 constructor
 ·rintro⟨i,h1,h2⟩
  rcases abU _ _▸h2 with h|h
  ·exact .inl ⟨i,h1,h⟩
  ·exact .inr ⟨i,h1,h⟩
 ·rintro(⟨i,h1,h2⟩|⟨i,h1,h2⟩)
  ·exact⟨i,h1,by simp[h2]⟩
  ·exact⟨i,h1,by simp[h2]⟩
section
variable {l:List af}{c:List ae}{k:List aB}{a b:Int}(hl:l.length≤1000)(hc:c.length≤1000)(hk:k.length≤1000)(hf:∀ f∈l,I7 f)
include hl
theorem Lr:iter FU (fun s=>cV FU l s.1 s.2) ((0:Int),[])=some (if gQ l.length (yK l)=true then .inl 1 else .inr (xz (l.map af.nU))):=by
 obtain⟨t,h1,h2⟩:∃ t,iter FU (fun s=>cV FU l s.1 s.2) ((0:Int),[])=some t∧t=(if gQ l.length (yK l)=true then .inl 1 else .inr (xz (l.map af.nU))):=by
  have key:∀ (m j n:Nat),j+m=l.length→(∀ i,i<j→yK l i=false)→m<n→iter n (fun s=>cV FU l s.1 s.2) ((j:Int),xz ((l.take j).map af.nU))=some (if gQ l.length (yK l)=true then .inl 1 else .inr (xz (l.map af.nU))):=by
   intro m
   induction m with
   |zero=>
    intro j n hj hb hn
    obtain⟨n,rfl⟩:∃ q,n=q+1:=⟨n-1,by omega⟩
    obtain rfl:j=l.length:=by omega
    rw[iter,uZ.2 hb]
    simp[cV]
   |succ m ih=>
    intro j n hj hb hn
    obtain⟨n,rfl⟩:∃ q,n=q+1:=⟨n-1,by omega⟩
    have h:j<l.length:=by omega
    rw[iter]
    simp only[cV]
    rw[aa2 (abm (by omega)),ET h,aaQ,cv h (by simp only[ML];omega),OM]
    cases hd:yK l j with
    |true=>
     rw[mW.2 ⟨j,h,hd⟩]
     unfold yK at hd
     rw[getD_at h] at hd
     rw[aa2 hd];rfl
    |false=>
     have Rs:=hd
     unfold yK at Rs
     rw[getD_at h] at Rs
     rw[aa7 (by rw[Rs];decide)]
     have:=ih (j+1) n (by omega) (fun i hi=>if e:i=j then e▸hd else hb i (by omega)) (by omega)
     rw[rP h,abW] at this
     simp only[abP,aem] at this
     rw[show xz ((l.take j).map af.nU++[l[j].nU])=jl (xz ((l.take j).map af.nU)) l[j].nU true by simp[xz,List.foldl_append]] at this
     exact this
  exact⟨_,key l.length 0 FU (by omega) (fun i hi=>absurd hi (Nat.not_lt_zero _)) (by simp only[FU];omega),rfl⟩
 rw[h1,h2]
include hc hk hf
theorem xy:cQ FU l c a b k=some (cR l c a b k):=by
 unfold cQ cR VL
 have hv:bc FU l (fun y1=>eU FU y1)=some (l.any fun f=>!fv f):=
  cK FU l (fun y1=>eU FU y1) (fun f=>!fv f) (fun f hm=>by
   unfold eU;rw[um.uY (hf f hm) (by decide)];rfl) (by simp only[ML];omega) (by simp only[FU];omega)
 rw[JN.B7 (by decide),aaQ,hv]
 cases km c with
 |false=>rfl
 |true=>
  cases l.any fun f=>!fv f with
  |true=>rfl
  |false=>
   rw[Lr hl]
   cases gQ l.length (yK l) with
   |true=>rfl
   |false=>
    have hw:=Dv (l:=l) (c:=c) (k:=k) (f:=fun s=>eB FU l c k s.1 s.2) (by simp only[FU];omega) (fun a j h=>by
     simp only[eB]
     rw[aa2 (abm (by omega)),ET h,aaQ,OL hl hc hf,cv h (by simp only[ML];omega)]
     cases decide (k[j].fA=a) with
     |false=>rfl
     |true=>cases Hd l c k[j]<;>rfl) (fun a=>by simp[eB]) a
    simp only[abt,abw,abh,aaQ,aco,aaU,abb,ac0]
    rw[hw]
    by_cases h0:(decide (a=b)&&decide (0<k.length))=true
    ·rw[aa2 h0,aa2 (by simpa using h0)]
    ·rw[aa7 h0,aa7 (by simpa using h0)]
     cases walk l c a k with
     |none=>rfl
     |some u=>
      by_cases hu:u=b
      ·simp[hu]
      ·simp[hu]
theorem Lo:ke FU l c a b k=some (cR l c a b k):=by
 unfold ke cR VL
 have hv:iter FU (fun s=>eX FU l s) 0=some (if gQ l.length (fun j=>yK l j||!fv (l.getD j default))=true then .inl 1 else .inr ()):=by
  refine fh (f:=fun s=>eX FU l s) l.length FU (fun j=>yK l j||!fv (l.getD j default)) (.inl 1) (.inr ()) (fun j hj=>?_) (by simp[eX]) (by simp only[FU];omega)
  simp only[eX]
  rw[aa2 (abm (by omega)),GQ (by omega),aaQ,ET hj,aaQ,B' (by rw[abI];omega),aaQ,Rc,cv hj (by simp only[ML];omega)]
  unfold yK
  rw[getD_at hj]
  cases decide (l[j].nU∈(l.take j).map af.nU) with
  |true=>rfl
  |false=>
   simp only[abw,abh,aaQ]
   rw[um.EP (hf _ (acb hj))]
   cases fv l[j]<;>rfl
 rw[hv,Rf,jY l default (fun f=>!fv f),JN.zk hc (by decide)]
 cases hd:gQ l.length (yK l) with
 |true=>simp
 |false=>
  cases l.any fun f=>!fv f with
  |true=>simp
  |false=>
   cases km c with
   |false=>simp
   |true=>
    have hw:=Dv (l:=l) (c:=c) (k:=k) (f:=fun s=>gb FU l c k s.1 s.2) (by simp only[FU];omega) (fun a j h=>by
     simp only[gb]
     rw[aa2 (abm (by omega)),ET h,aaQ,cv h (by simp only[ML];omega)]
     cases decide (k[j].fA=a) with
     |false=>rfl
     |true=>
      simp only[abt,abw,abh,aaQ]
      rw[Lq hl hc hf]
      cases Hd l c k[j]<;>rfl) (fun a=>by simp[gb]) a
    simp only[abt,abw,abh,aaQ,aco,aaU,abb,ac0]
    rw[hw]
    by_cases h0:(decide (a=b)&&decide (0<k.length))=true
    ·rw[aa2 h0,aa2 (by simpa using h0)]
    ·rw[aa7 h0,aa7 (by simpa using h0)]
     cases walk l c a k with
     |none=>rfl
     |some u=>
      by_cases hu:u=b
      ·simp[hu]
      ·simp[hu]
end
end Go.Proofs.YtjdnbobilgamdaaGreatDoor.Ab.U
end
section
namespace Go.Proofs.YtjdnbobilgamdaaGreatDoor.Ab.U
open Go
open um (fv I7 FB cmp)
theorem i64_in{x:Int}(h:(Lit.int .i64 x).wf=true):-9223372036854775808≤x∧x≤9223372036854775807:=by
 simp[Lit.wf,IntKind.min,IntKind.max,IntKind.signed,IntKind.bits] at h;omega
theorem next_ne{x:Int}(h:-9223372036854775808≤x∧x≤9223372036854775807):IntKind.i64.wrap (x+1)≠x:=by
 by_cases he:x=9223372036854775807
 ·subst he;decide
 ·rw[jT (by omega) (by omega)];omega
section
variable {l:List af}{c:List ae}{k:List aB}{a b:Int}
theorem IC(h:cR l c a b k=0):VL l c=true∧¬(a=b∧0<k.length)∧walk l c a k=some b:=by
 unfold cR at h
 split at h
 ·rename_i hv
  split at h
  ·cases h
  ·rename_i O6
   refine⟨hv,fun hc=>O6 (by simp[hc]),?_⟩
   cases hw:walk l c a k with
   |none=>rw[hw] at h;cases h
   |some u=>
    rw[hw] at h
    by_cases hu:u=b
    ·rw[hu]
    ·simp only[hu,abb] at h;cases h
 ·cases h
theorem Se{k':List aB}{b':Int}(h:walk l c a k'≠some b'):cR l c a b' k'≠0:=fun hc=>h (IC hc).2.2
theorem Xm{b':Int}(h:cR l c a b k=0)(hb:b'≠b):cR l c a b' k=17:=by
 obtain⟨h1,-,h3⟩:=IC h
 unfold cR
 rw[aa2 h1,h3]
 split
 ·rfl
 ·exact aa7 (acN hb)
theorem parts{i:Nat}(hi:i<k.length):k=k.take i++k[i]::k.drop (i+1):=by
 rw[List.getElem_cons_drop,acL]
theorem JT{i:Nat}(hi:i<k.length)(h:walk l c a k=some b):∃ m,walk l c a (k.take i)=some m∧k[i].fA=m∧Hd l c k[i]=true∧walk l c k[i].fB (k.drop (i+1))=some b:=by
 rw[parts hi,xx] at h
 obtain⟨m,h1,h2⟩:=abM.1 h
 rw[walk] at h2
 split at h2
 ·rename_i hc
  simp only[aaT,abe] at hc
  exact⟨m,h1,hc.1,hc.2,h2⟩
 ·cases h2
theorem Xn{x:aB}(h:Hd l c x=true):x.fA≠x.fB:=fun e=>by
 unfold Hd at h
 rw[abm e] at h;cases h
theorem Q9{i:Nat}(hi:i<k.length)(h:walk l c a k=some b):walk l c a (k.take i++k.drop (i+1))≠some b:=by
 obtain⟨m,h1,h2,h3,h4⟩:=JT hi h
 have aR:=Xn h3
 rw[xx,h1,aaQ]
 cases hd:k.drop (i+1) with
 |nil=>
  rw[hd] at h4
  simp only[walk] at h4 ⊢
  injection h4 with h4
  exact fun e=>by injection e with e;exact aR (by rw[h2,e,h4])
 |cons y r=>
  rw[hd] at h4
  simp only[walk] at h4 ⊢
  split at h4
  ·rename_i hy
   simp only[aaT,abe] at hy
   rw[aa7 (by
    simp only[aaT,abe]
    exact fun hc=>aR (by rw[h2,←hc.1,hy.1]))]
   exact fun e=>by cases e
  ·cases h4
theorem Q_{i:Nat}(hi:i<k.length){w:Int}(hw:w≠k[i].fO)(h:walk l c a k=some b):walk l c a (k.set i ⟨k[i].fA,k[i].fB,k[i].mD,k[i].bD,w⟩)≠some b:=by
 obtain⟨m,h1,h2,h3,h4⟩:=JT hi h
 have DR:k.set i ⟨k[i].fA,k[i].fB,k[i].mD,k[i].bD,w⟩=k.take i++⟨k[i].fA,k[i].fB,k[i].mD,k[i].bD,w⟩::k.drop (i+1):=List.set_eq_take_append_cons_drop.trans (by rw[aa2 hi])
 have ON:Hd l c ⟨k[i].fA,k[i].fB,k[i].mD,k[i].bD,w⟩=false:=by
  unfold Hd at h3 ⊢
  simp only[aaT] at h3
  obtain⟨h5,h6⟩:=h3
  dsimp only
  rw[h5,ab1]
  cases hm:k[i].mD with
  |true=>
   rw[hm] at h6
   simp only[abh,aaT,abe] at h6 ⊢
   rw[abF (show ¬w=0 by rw[←h6.2];exact hw),ac5]
  |false=>
   rw[hm] at h6
   unfold X0 at h6 ⊢
   simp only[aaU,abb,aaT,abe] at h6 ⊢
   rw[abF (show ¬WT (CM (zN l k[i].fA).1 (zN l k[i].fB).1)=w from fun e=>hw (by rw[←e];exact h6.2.2.1)),adq,ac5,ac5]
 rw[DR,xx,h1,aaQ,walk,ON,ac5]
 exact fun e=>by cases e
end
theorem OG{l:List af}{c:List ae}(hl:l.length≤1048576)(hf:∀ f∈l,FB f):∃ q,dv FU l c=some q∧(q=true→l.length≤7∧c.length≤10):=by
 have key:∀ (m j n:Nat),j+m=l.length→m<n→∃ t,iter n (fun s=>dI FU l s) (j:Int)=some t∧(t=.inl false∨t=.inr ()):=by
  intro m
  induction m with
  |zero=>
   intro j n hj hn
   obtain⟨n,rfl⟩:∃ q,n=q+1:=⟨n-1,by omega⟩
   obtain rfl:j=l.length:=by omega
   exact⟨_,by rw[iter];simp[dI],.inr rfl⟩
  |succ m ih=>
   intro j n hj hn
   obtain⟨n,rfl⟩:∃ q,n=q+1:=⟨n-1,by omega⟩
   have h:j<l.length:=by omega
   obtain⟨q,hq⟩:=um.Ut (hf _ (acb h))
   rw[iter]
   simp only[dI]
   rw[aa2 (abm (by omega)),ET h,aaQ,hq,aaQ,cv h (by simp only[ML];omega)]
   cases q with
   |false=>exact⟨_,rfl,.inl rfl⟩
   |true=>exact ih (j+1) n (by omega) (by omega)
 obtain⟨t,h1,h2⟩:=key l.length 0 FU (by omega) (by simp only[FU];omega)
 unfold dv
 rw[show(0:Int)=((0:Nat):Int) from rfl,h1]
 rcases h2 with rfl|rfl
 ·exact⟨false,rfl,fun h=>by cases h⟩
 ·refine⟨_,rfl,fun h=>?_⟩
  simp only[aaT,abe] at h
  omega
theorem Ra{l:List af}(hl:l.length≤1000):lH FU l=some l:=by
 unfold lH
 rw[rL (f:=fun s=>gJ FU l s.1 s.2) (t:=l) (fun j=>(l.take j,(j:Int))) l.length FU (([]:List af),(0:Int)) (fun j hj=>?_) (by simp[gJ]) (by simp only[FU];omega) rfl]
 ·rfl
 ·simp only[gJ]
  rw[aa2 (abm (by omega)),ET hj,aaQ,show qe FU l[j]=some l[j] from rfl,aaQ,cv hj (by simp only[ML];omega),rP hj,tL (by rw[abI];omega) (by rw[abI];omega)]
  rfl
theorem ID{k:List aB}(hl:k.length≤1000):g_ FU k=some k:=by
 unfold g_
 rw[rL (f:=fun s=>iY FU k s.1 s.2) (t:=k) (fun j=>(k.take j,(j:Int))) k.length FU (([]:List aB),(0:Int)) (fun j hj=>?_) (by simp[iY]) (by simp only[FU];omega) rfl]
 ·rfl
 ·simp only[iY]
  rw[aa2 (abm (by omega)),ET hj,aaQ,cv hj (by simp only[ML];omega),rP hj,tL (by rw[abI];omega) (by rw[abI];omega)]
  rfl
theorem Rb{k:List aB}(hl:k.length≤1000):nu FU k=some k:=by
 unfold nu
 rw[rL (f:=fun s=>gK FU k s.1 s.2) (t:=k) (fun j=>((j:Int),k.take j)) k.length FU ((0:Int),([]:List aB)) (fun j hj=>?_) (by simp[gK]) (by simp only[FU];omega) rfl]
 ·rfl
 ·simp only[gK]
  rw[aa2 (abm (by omega)),ET hj,aaQ,cv hj (by simp only[ML];omega),rP hj,tL (by rw[abI];omega) (by rw[abI];omega)]
  rfl
theorem Xo{f:af}(h:QX 1048576 f):FB f:=⟨h.2.1,h.2.2.1,h.2.2.2.1.1,h.2.2.2.2.1,h.2.2.2.2.2.1,h.2.2.2.2.2.2.1,h.2.2.2.2.2.2.2⟩
theorem rounds{l:List af}{c:List ae}{x:mV}(hl:l.length≤1000)(hc:c.length≤1000)(hk:x.b_.length≤100)(hf:∀ f∈l,I7 f)(hw:∀ y∈x.b_,-9223372036854775808≤y.fO∧y.fO≤9223372036854775807)(h:cR l c x.fA x.fB x.b_=0):
  iter FU (fun s=>bM FU c x l s) (0:Int)=some (.inr ()):=by
 have hwk:=(IC h).2.2
 have:=fh (f:=fun s=>bM FU c x l s) x.b_.length FU (fun _=>false) (.inl false) (.inr ()) (fun j hj=>?_) (by simp[bM]) (by simp only[FU];omega)
 ·rw[this];simp[gQ]
 ·simp only[bM]
  have w1:=cv hj (show x.b_.length≤ML by simp only[ML];omega)
  rw[aa2 (abm (by omega)),GQ (by omega),aaQ,ID (by rw[abI];omega),aaQ,qw (by simp;omega) (by simp;omega),aaQ,w1,OH (by omega),aaQ,ID (by rw[ack];omega),aaQ,acU,
   qw (by simp;omega) (by simp;omega),aaQ,xy hl hc (by simp;omega) hf,aaQ,aa7 (by simpa using Se (Q9 hj hwk)),Rb (by omega),aaQ,ET hj,aaQ,aaQ,aaQ,aaQ]
  have hs:ku x.b_ (j:Int) (⟨x.b_[j].fA,x.b_[j].fB,x.b_[j].mD,x.b_[j].bD,IntKind.i64.wrap (x.b_[j].fO+1)⟩:aB)=some (x.b_.set j ⟨x.b_[j].fA,x.b_[j].fB,x.b_[j].mD,x.b_[j].bD,IntKind.i64.wrap (x.b_[j].fO+1)⟩):=by
   unfold ku
   rw[aa2 ⟨by omega,by omega⟩,aa8]
  rw[hs,aaQ,xy hl hc (by simp;omega) hf,aaQ,aa7 (by simpa using Se (Q_ hj (next_ne (hw _ (acb hj))) hwk))]
  rfl
section
variable {n:Nat}{l:List af}{c:List ae}{x:mV}
theorem Z4(h:dv n l c=some false):bS n l c x=some true:=by
 unfold bS;simp[h]
theorem Z5{q:Bool}(h:dv n l c=some q)(hx:10<x.b_.length):bS n l c x=some true:=by
 unfold bS
 have:(10:Int)<(x.b_.length:Int):=by omega
 simp[h,this]
theorem Z6{e:Int}(h:dv n l c=some true)(hx:x.b_.length≤10)(o1:lH n l=some l)(o2:g_ n x.b_=some x.b_)(c1:cQ n l c x.fA x.fB x.b_=some e)(c2:ke n l c x.fA x.fB x.b_=some e)
  (c3:e=0→cQ n l c x.fA (IntKind.i64.wrap (x.fB+1)) x.b_=some 17∧iter n (fun s=>bM n c x l s) (0:Int)=some (.inr ())):bS n l c x=some true:=by
 unfold bS
 have:¬(10:Int)<(x.b_.length:Int):=by omega
 by_cases he:e=0
 ·obtain⟨c4,c5⟩:=c3 he
  simp[h,this,o1,o2,c1,c2,he,c4,c5]
 ·simp[h,this,o1,o2,c1,c2,he]
end
theorem uj{l:List af}{c:List ae}{x:mV}(ol:W4 1048576 l)(_:W5 1048576 c)(ox:W_ 1048576 x):bS FU l c x=some true:=by
 have XT:∀ f∈l,FB f:=fun f hf=>Xo (ol.2 f hf)
 obtain⟨q,hq,Xb⟩:=OG (c:=c) ol.1 XT
 cases q with
 |false=>exact Z4 hq
 |true=>
  obtain⟨h1,h2⟩:=Xb rfl
  by_cases hx:x.b_.length≤10
  ·have hf:∀ f∈l,I7 f:=fun f hm=>(XT f hm).ok
   refine Z6 hq hx (Ra (by omega)) (ID (by omega)) (xy (by omega) (by omega) (by omega) hf) (Lo (by omega) (by omega) (by omega) hf) (fun he=>⟨?_,rounds (by omega) (by omega) (by omega) hf (fun y hy=>i64_in (ox.2.2.2 y hy).2.2.2.2) he⟩)
   rw[xy (by omega) (by omega) (by omega) hf,Xm he (next_ne (i64_in ox.2.1))]
  ·exact Z5 hq (by omega)
end Go.Proofs.YtjdnbobilgamdaaGreatDoor.Ab.U
end
