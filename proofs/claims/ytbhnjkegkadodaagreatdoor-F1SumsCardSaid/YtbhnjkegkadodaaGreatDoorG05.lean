/- Part of the proof. -/
import Derived.Test.YtbhnjkegkadodaaGreatDoorG00
import Derived.Lib.BitFns
set_option linter.all false
set_option maxRecDepth 100000
set_option maxHeartbeats 8000000
namespace Gn
theorem B_two:B=2 ^ 64:=by decide
theorem B_split {n:Nat} (h:n<=64):2 ^ (64-n)*2 ^ n=B:=by rw[<-Nat.pow_add,B_two];congr 1;omega
theorem two_pos (n:Nat):0<2 ^ n:=Nat.pow_pos (by omega)
theorem shl_div {a n:Nat} (h:n<=64):a*2 ^ n / B=a / 2 ^ (64-n):=by
 rw[<-B_split h,Nat.mul_div_mul_right _ _ (two_pos n)]
theorem shl_split {a n:Nat} (h:n<=64):a*2 ^ n % B+B*(a / 2 ^ (64-n))=a*2 ^ n:=by
 rw[<-shl_div h];exact Nat.mod_add_div _ _
theorem shl_mod {a n:Nat} (h:n<=64):a*2 ^ n % B=2 ^ n*(a % 2 ^ (64-n)):=by
 rw[<-B_split h,Nat.mul_mod_mul_right,Nat.mul_comm]
theorem or_add {a c n:Nat} (h:n<=64) (hc:c<2 ^ n):c ||| (a*2 ^ n % B)=c+a*2 ^ n % B:=by
 rw[shl_mod h,Nat.or_comm,<-Nat.two_pow_add_eq_or_of_lt hc,Nat.add_comm]
theorem or_lt {a c n:Nat} (h:n<=64) (hc:c<2 ^ n):c+a*2 ^ n % B<B:=by
 rw[shl_mod h];have h1:a % 2 ^ (64-n)+1<=2 ^ (64-n):=Nat.mod_lt _ (two_pos _);have h2:=Nat.mul_le_mul_left (2 ^ n) h1;rw[Nat.mul_add,Nat.mul_comm (2 ^ n) (2 ^ (64-n)),B_split h]at h2;omega
theorem shr_lt {a n:Nat} (h:n<=64) (ha:a<B):a / 2 ^ (64-n)<2 ^ n:=by
 refine Nat.div_lt_of_lt_mul ?_
 rw[B_split h];exact ha
theorem shr_step {x V n:Nat} (h:n<=64):(x+B*V) / 2 ^ n=(x / 2 ^ n+(V*2 ^ (64-n)) % B)+B*(V / 2 ^ n):=by
 have e1:B*V=2 ^ n*(V*2 ^ (64-n)):=by rw[<-B_split h,Nat.mul_comm (2 ^ (64-n)),Nat.mul_assoc,Nat.mul_comm V]
 rw[e1,Nat.add_mul_div_left _ _ (two_pos n)];have h':64-n<=64:=by omega
 have:=shl_split (a:=V) h';rw[show 64-(64-n)=n by omega]at this;omega
theorem shr_low {y V n:Nat}:((y+B*V)*2 ^ (64-n)) % B=(y*2 ^ (64-n)) % B:=by
 rw[Nat.add_mul,Nat.mul_assoc,Nat.add_mul_mod_self_left]
theorem bitLenAux_bounds:∀(f x:Nat),0<x->x<2 ^ f → 2 ^ (Go.Lib.bitLenAux f x-1)<=x/\x<2 ^ Go.Lib.bitLenAux f x/\1<=Go.Lib.bitLenAux f x/\Go.Lib.bitLenAux f x<=f
 | 0,x,h0,h=>by simp at h;omega
 | f+1,x,h0,h=>by
   rw[Go.Lib.bitLenAux,if_neg (by omega)];rcases Nat.lt_or_ge x 2 with h2|h2
   · obtain rfl:x=1:=(by omega);have:Go.Lib.bitLenAux f (1 / 2)=0:=by cases f<;>rfl
     rw[this];simp
   · obtain⟨a,b,c,d⟩:=bitLenAux_bounds f (x / 2) (by omega) (by rw[Nat.pow_succ]at h;omega);obtain⟨k,hk⟩:∃k,Go.Lib.bitLenAux f (x / 2)=k+1:=⟨Go.Lib.bitLenAux f (x / 2)-1,by omega⟩
     rw[hk]at a b d ⊢;simp only[Nat.add_sub_cancel]at a;refine⟨?_,?_,by omega,by omega⟩
     · rw[show 1+(k+1)-1=k+1 by omega,Nat.pow_succ];omega
     · rw[show 1+(k+1)=(k+1)+1 by omega,Nat.pow_succ];omega
theorem zbg {x:Nat} (h0:0<x) (h:x<B):2 ^ (Go.Lib.bitLen x-1)<=x/\x<2 ^ Go.Lib.bitLen x/\1<=Go.Lib.bitLen x/\Go.Lib.bitLen x<=64:=
 bitLenAux_bounds 64 x h0 (by rw[<-B_two];exact h)
theorem lead_bounds {y:Nat} (h0:0<y) (h:y<B):y*2 ^ (64-Go.Lib.bitLen y)<B/\B<=2*(y*2 ^ (64-Go.Lib.bitLen y)):=by
 obtain⟨a,b,c,d⟩:=zbg h0 h;have e:2 ^ Go.Lib.bitLen y*2 ^ (64-Go.Lib.bitLen y)=B:=by rw[Nat.mul_comm];exact B_split d
 have h2:=two_pos (64-Go.Lib.bitLen y)
 constructor
 · rw[<-e];exact Nat.mul_lt_mul_of_pos_right b h2
 · rw[<-e];obtain⟨k,hk⟩:∃k,Go.Lib.bitLen y=k+1:=⟨Go.Lib.bitLen y-1,by omega⟩
   rw[hk]at a ⊢;simp only[Nat.add_sub_cancel]at a;rw[Nat.pow_succ,Nat.mul_comm (2 ^ k) 2,Nat.mul_assoc];exact Nat.mul_le_mul_left 2 (Nat.mul_le_mul_right _ a)
theorem val_top3 {X:List Nat} {n:Nat} (hX:X.length=n+1) (hn:2<=n):val X=((X[n]'(by omega)*B+X[n-1]'(by omega))*B+X[n-2]'(by omega))*B ^ (n-2)+val (X.take (n-2)):=by
 obtain⟨p,rfl⟩:∃p,n=p+2:=⟨n-2,by omega⟩
 simp only[Nat.add_sub_cancel,show p+2-1=p+1 by omega];rw[val_split X p (by omega),List.drop_eq_getElem_cons (by omega),List.drop_eq_getElem_cons (by omega),List.drop_eq_getElem_cons (by omega),List.drop_eq_nil_of_le (by omega)];simp only[val_cons,val_nil,Nat.mul_zero,Nat.add_zero];rw[Nat.mul_comm (B ^ p),Nat.mul_comm B (X[p+1]+B*X[p+2]),Nat.mul_comm B X[p+2],Nat.add_comm X[p+1],Nat.add_comm X[p]];omega
theorem val_top2 {y:List Nat} {n:Nat} (hy:y.length=n) (hn:2<=n):val y=(y[n-1]'(by omega)*B+y[n-2]'(by omega))*B ^ (n-2)+val (y.take (n-2)):=by
 obtain⟨p,rfl⟩:∃p,n=p+2:=⟨n-2,by omega⟩
 simp only[Nat.add_sub_cancel,show p+2-1=p+1 by omega];rw[val_split y p (by omega),List.drop_eq_getElem_cons (by omega),List.drop_eq_getElem_cons (by omega),List.drop_eq_nil_of_le (by omega)];simp only[val_cons,val_nil,Nat.mul_zero,Nat.add_zero];rw[Nat.mul_comm (B ^ p),Nat.mul_comm B y[p+1],Nat.add_comm y[p]];omega
theorem top_le {X y:List Nat} {n:Nat} (hX:X.length=n+1) (hy:y.length=n) (hn:0<n) (hym:Lim y) (hR:val X<B*val y):X[n]'(by omega)<=y[n-1]'(by omega):=by
 have h1:val X=val (X.take n)+B ^ n*X[n]'(by omega):=by
  rw[<-zaf (show X.length<=n+1 by omega),zag X n (by omega)]
 have h2:val y=val (y.take (n-1))+B ^ (n-1)*y[n-1]'(by omega):=by
  rw[<-zaf (show y.length<=(n-1)+1 by omega),zag y (n-1) (by omega)]
 have h3:=val_lt (hym.take (n-1));rw[List.length_take_of_le (by omega)]at h3;have h4:B*val y<B ^ n*(y[n-1]'(by omega)+1):=by
  have e:B ^ n=B*B ^ (n-1):=by rw[<-Nat.pow_succ',show(n-1).succ=n by omega]
  rw[e,Nat.mul_assoc];refine Nat.mul_lt_mul_of_pos_left ?_ B_pos;rw[h2,Nat.mul_add];omega
 have h5:B ^ n*X[n]'(by omega)<B ^ n*(y[n-1]'(by omega)+1):=by omega
 have:=Nat.lt_of_mul_lt_mul_left h5;omega
theorem long_round {X y:List Nat} {n Z:Nat} (hX:X.length=n+1) (hy:y.length=n) (hn:2<=n) (hXm:Lim X) (hym:Lim y) (hR:val X<B*val y) (htop:B<=2*y[n-1]'(by omega))
 (hZ:Z=min (B-1) (((X[n]'(by omega)*B+X[n-1]'(by omega))*B+X[n-2]'(by omega)) / (y[n-1]'(by omega)*B+y[n-2]'(by omega)))):
 val X / val y<=Z/\Z<=val X / val y+1:=by
 have h1:=val_lt (hXm.take (n-2));have h2:=val_lt (hym.take (n-2));rw[List.length_take_of_le (by omega)]at h1 h2;rw[val_top3 hX hn,val_top2 hy hn]at hR ⊢;have hb:B<=y[n-1]'(by omega)*B+y[n-2]'(by omega):=by
  have:1*B<=y[n-1]'(by omega)*B:=Nat.mul_le_mul_right _ (by have:=B_pos;omega);omega
 rw[Nat.mul_comm B]at hR;have:=guess_bounds (B_pow_pos (n-2)) h2 h1 hb B_pos hR;rw[<-hZ]at this;exact this
theorem by_facts {b o:List Nat} {n x s:Nat} (hb:b.length=n) (hn:0<n) (hbm:Lim b) (hx:b[n-1]'(by omega)=x) (ho:o.length=n+1) (hv:val o=val b*2 ^ s) (h1:x*2 ^ s<B) (hs:s<=64) (hom:Lim o):
 val (o.take n)=val b*2 ^ s/\x*2 ^ s<=o[n-1]'(by omega):=by
 have e:B ^ n=B ^ (n-1)*B:=by rw[<-Nat.pow_succ,show(n-1).succ=n by omega]
 have a6:val b=val (b.take (n-1))+B ^ (n-1)*x:=by
  rw[<-zaf (show b.length<=(n-1)+1 by omega),zag b (n-1) (by omega),hx]
 have a2:=val_lt (hbm.take (n-1));rw[List.length_take_of_le (by omega)]at a2;have a3:(x+1)*2 ^ s<=B:=by
  have h2:x<2 ^ (64-s):=by
   rw[<-B_split hs]at h1;exact Nat.lt_of_mul_lt_mul_right h1
  rw[<-B_split hs];exact Nat.mul_le_mul_right _ h2
 have a8:val o<B ^ n:=by
  rw[hv,e];have h3:val b<B ^ (n-1)*(x+1):=by rw[Nat.mul_add];omega
  have h4:val b*2 ^ s<B ^ (n-1)*(x+1)*2 ^ s:=Nat.mul_lt_mul_of_pos_right h3 (two_pos s);rw[Nat.mul_assoc]at h4;exact zqL h4 (Nat.mul_le_mul_left _ a3)
 have a1:val o=val (o.take n)+B ^ n*o[n]'(by omega):=by
  rw[<-zaf (show o.length<=n+1 by omega),zag o n (by omega)]
 have h0:o[n]'(by omega)=0:=by
  rcases Nat.eq_zero_or_pos (o[n]'(by omega)) with h|h
  · exact h
  · have:=Nat.le_mul_of_pos_right (B ^ n) h;omega
 rw[h0,Nat.mul_zero,Nat.add_zero]at a1;refine⟨by rw[<-a1,hv],?_⟩;have b5:val (o.take n)=val (o.take (n-1))+B ^ (n-1)*o[n-1]'(by omega):=by
  have:=zag o (n-1) (by omega)
  rwa [show n-1+1=n by omega]at this
 have a4:=val_lt (hom.take (n-1));rw[List.length_take_of_le (by omega)]at a4;have h5:B ^ (n-1)*(x*2 ^ s)<B ^ (n-1)*(o[n-1]'(by omega)+1):=by
  rw[Nat.mul_add];have h6:B ^ (n-1)*(x*2 ^ s)<=val b*2 ^ s:=by rw[<-Nat.mul_assoc];exact Nat.mul_le_mul_right _ (by omega)
  omega
 have:=Nat.lt_of_mul_lt_mul_left h5;omega
theorem start_lt {a o y:List Nat} {N n M s:Nat} (ha:a.length=N) (ham:Lim a) (ho:o.length=N+1) (hom:Lim o) (hv:val o=val a*2 ^ s) (hy:y.length=n) (hn:0<n) (hM:M+n=N)
 (htop:B<=2*y[n-1]'(by omega)) (hs:s<=63):val (o.drop (M+1))<val y:=by
 have h1:=val_lt ham;rw[ha]at h1;have a5:val o=val (o.take N)+B ^ N*o[N]'(by omega):=by
  rw[<-zaf (show o.length<=N+1 by omega),zag o N (by omega)]
 have h2:o[N]'(by omega)<2 ^ s:=by
  have h3:B ^ N*o[N]'(by omega)<B ^ N*2 ^ s:=by
   have h4:val a*2 ^ s<B ^ N*2 ^ s:=Nat.mul_lt_mul_of_pos_right h1 (two_pos s);omega
  exact Nat.lt_of_mul_lt_mul_left h3
 have a7:2 ^ s<=2 ^ 63:=Nat.pow_le_pow_right (by omega) hs;have a8:B=2*2 ^ 63:=by decide
 obtain⟨D,hD⟩:=zE (o.drop (M+1));have a9:D.length=n:=by rw[hD,List.length_drop];omega
 have a2:D[n-1]'(by omega)=o[N]'(by omega):=by simp only[hD,List.getElem_drop];congr 1;omega
 have b0:val D=val (D.take (n-1))+B ^ (n-1)*D[n-1]'(by omega):=by
  rw[<-zaf (show D.length<=(n-1)+1 by omega),zag D (n-1) (by omega)]
 have a3:Lim D:=hD▸hom.drop _;have h5:=val_lt (a3.take (n-1));rw[List.length_take_of_le (by omega)]at h5;have b6:val y=val (y.take (n-1))+B ^ (n-1)*y[n-1]'(by omega):=by
  rw[<-zaf (show y.length<=(n-1)+1 by omega),zag y (n-1) (by omega)]
 rw[<-hD];have h6:B ^ (n-1)*(D[n-1]'(by omega)+1)<=B ^ (n-1)*y[n-1]'(by omega):=Nat.mul_le_mul_left _ (by rw[a2];omega);rw[Nat.mul_add]at h6;omega
theorem round_R {P X S:List Nat} {Y n:Nat} (hX:X.length=n+1) (hYn:Y<B ^ n) (hXm:Lim X) (hS:val ((P ++ X ++ S).drop (P.length+1))<Y):val S=0/\val X<B*Y:=by
 have a1:0<X.length:=by omega
 have a2:(P ++ X ++ S).drop (P.length+1)=X.drop 1 ++ S:=by
  rw[List.append_assoc,<-List.drop_drop,List.drop_left,List.drop_append_of_le_length (by omega)]
 rw[a2,val_append,List.length_drop,hX,Nat.add_sub_cancel]at hS;have a3:val S=0:=by
  rcases Nat.eq_zero_or_pos (val S) with h|h
  · exact h
  · have:=Nat.le_mul_of_pos_right (B ^ n) h;omega
 rw[a3,Nat.mul_zero,Nat.add_zero]at hS;refine⟨a3,?_⟩;have h1:val X=X[0]+B*val (X.drop 1):=by
  conv=>lhs;rw[show X=X[0] :: X.drop 1 from by rw[<-List.drop_eq_getElem_cons a1];rfl]
  rw[val_cons]
 have h2:=hXm.get 0 a1;have h3:B*(val (X.drop 1)+1)<=B*Y:=Nat.mul_le_mul_left _ hS;rw[Nat.mul_add]at h3;omega
theorem round_left {P X X' S:List Nat} {Y D n:Nat} (hX:X.length=n+1) (hX':X'.length=n+1) (hS0:val S=0) (he:val X'+D*Y=val X) (hlt:val X'<Y):
 val (P ++ X' ++ S)+B ^ P.length*(D*Y)=val (P ++ X ++ S)/\val ((P ++ X' ++ S).drop P.length)<Y:=by
 refine⟨?_,?_⟩
 · simp only[val_append,List.length_append,hX,hX'];rw[<-he,Nat.mul_add];omega
 · rw[List.append_assoc,List.drop_left,val_append,hS0,Nat.mul_zero,Nat.add_zero];exact hlt
theorem digit_le {R Y Z:Nat} (h:Z<=R / Y+1):Z*Y<=R+Y:=by
 have h1:=Nat.mul_le_mul_right Y h;rw[Nat.add_mul,Nat.one_mul]at h1;have:=Nat.div_mul_le_self R Y;omega
theorem digit_hit {R Y Z r:Nat} (hY:0<Y) (h:R / Y<=Z) (he:r+Z*Y=R):r<Y:=by
 have h1:=Nat.lt_mul_div_succ R hY;have h2:=Nat.mul_le_mul_right Y h;rw[Nat.mul_add,Nat.mul_one,Nat.mul_comm]at h1;omega
theorem digit_miss {R Y Z r:Nat} (_hY:0<Y) (h:Z<=R / Y+1) (hlt:R<Z*Y) (he:r+Z*Y=R+Y):1<=Z/\r+(Z-1)*Y=R/\r<Y:=by
 have hZ:1<=Z:=by
  rcases Nat.eq_zero_or_pos Z with h0|h0
  · rw[h0]at hlt;omega
  · exact h0
 obtain⟨k,rfl⟩:∃k,Z=k+1:=⟨Z-1,by omega⟩
 rw[Nat.add_mul,Nat.one_mul]at hlt he;have e:r+k*Y=R:=by omega
 refine⟨hZ,by rw[Nat.add_sub_cancel];exact e,?_⟩;have h1:=Nat.mul_le_mul_right Y (show k<=R / Y by omega);have h2:=Nat.div_mul_le_self R Y;omega
theorem long_alg {v v' Y D V A Bj:Nat} (h1:v+Y*(Bj*B*V)=A) (h2:v'+Bj*(D*Y)=v):v'+Y*(Bj*(D+B*V))=A:=by
 rw[Nat.mul_add Bj,Nat.mul_add Y,<-Nat.mul_assoc Bj B V,Nat.mul_left_comm Y Bj D,Nat.mul_comm Y D];omega
end Gn
