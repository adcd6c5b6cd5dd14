/- Part of the proof. -/
import Derived.Test.YtbhnjkegkadodaaGreatDoorFG
import Derived.Test.YtbhnjkegkadodaaGreatDoorG12
set_option linter.all false
set_option maxRecDepth 100000
set_option maxHeartbeats 8000000
namespace Go.Proofs.YtbhnjkegkadodaaGreatDoor
open Go Go.RowKit Go.Proofs Gl
theorem gs_of {w:World} {Ag:Option Addr}:∀ {n:Nat},(∀j,j<n->∃b off A m c g,Ag=some ⟨b,off,none⟩/\w.cell? ⟨b,off+j,none⟩=some (.slice A m c)/\m<=4/\LQ (fun x=>x<w.heap.size) w A m c g)->∃gs:List Nat,gs.length=n/\Gs w Ag gs
 | 0,_=>⟨[],rfl,fun j g h=>by simp at h⟩
 | n+1,h=>by
   obtain⟨gs,hl,hg⟩:=gs_of (n:=n) (fun j hj=>h j (by omega))
   obtain⟨b,off,A,m,c,g,h1,h2,h3,h4⟩:=h n (by omega)
   refine⟨gs ++ [g],by simp[hl],fun j x hx=>?_⟩
   rcases Nat.lt_or_ge j gs.length with hj|hj
   · rw[List.getElem?_append_left hj]at hx;exact hg j x hx
   · have hj2:j=n:=by
      have:=(List.getElem?_eq_some_iff.1 hx).1
      simp at this;omega
     subst hj2
     rw[List.getElem?_append_right hj,hl,Nat.sub_self]at hx
     cases hx
     exact⟨b,off,A,m,c,h1,h2,h3,h4⟩
theorem lshort_c {w:World} {Ag:Option Addr} {ng cg:Nat} (hg:Giv w Ag ng):
 Calls Tryz.prog 38 #[.slice Ag ng cg] w fun e w'=>(∃b,e=.returned (.bool b)/\(b=true↔ng<=20/\∃gs:List Nat,gs.length=ng/\Gs w Ag gs))/\w'=w:=by
 have HG:=zqH hg
 clear hg
 go_enter Tryz.func38,Tryz.ntmps38
 go_wp2
 go_loopw [3] (fun i wr=>∃(j:Nat),j<=ng/\j<=21/\i=.int .i64 (j:Int)/\wr=w/\Hid (∀k,k<j->∃b off A m c g,Ag=some ⟨b,off,none⟩/\w.cell? ⟨b,off+k,none⟩=some (.slice A m c)/\m<=4/\LQ (fun x=>x<w.heap.size) w A m c g)) (fun i _=>ng-(intOf i).toNat)
 case atStart=>exact⟨0,by omega,by omega,rfl,rfl,zqH (fun k hk=>by omega)⟩
 case round=>
  obtain⟨j,hj,hj2,rfl,rfl,hI⟩:=hrel
  by_cases hjn:j<ng
  · by_cases hj3:j<=20
    · obtain⟨b,off,A,m,c,rfl,hc,hlq⟩:=HG.out j hjn
      by_cases h4:m<=4
      · obtain⟨g,hlq⟩:=hlq h4
        have HN:=zqH (show ∀k,k<j+1->∃b' off' A m c g,(some ⟨b,off,none⟩:Option Addr)=some ⟨b',off',none⟩/\wr.cell? ⟨b',off'+k,none⟩=some (.slice A m c)/\m<=4/\LQ (fun x=>x<wr.heap.size) wr A m c g from fun k hk=>by
         rcases Nat.lt_or_ge k j with h|h
         · exact hI.out k h
         · have:k=j:=by omega
           subst this
           exact⟨b,off,A,m,c,g,rfl,hc,h4,hlq⟩)
        clear hlq hI
        go_wp2
        exact⟨⟨j+1,by omega,by omega,by congr 1,by trivial,HN⟩,by simp[intOf];omega⟩
      · clear hlq
        go_wp2
        go_ret
        refine⟨⟨false,by simp,fun h=>(by cases h),fun⟨_,gs,hl,hg⟩=>?_⟩,rfl⟩
        obtain⟨b',off',A',m',c',e,hc',h4',_⟩:=hg j _ (List.getElem?_eq_getElem (by omega))
        cases e
        have hcc:=hc.symm.trans hc'
        simp only[Option.some.injEq,Value.slice.injEq]at hcc
        exact absurd (hcc.2.1▸h4') h4
    · go_wp2
      go_ret
      exact⟨⟨_,rfl,by simp;omega⟩,rfl⟩
  · obtain rfl:j=ng:=by omega
    go_wp2
    go_ret
    refine⟨⟨_,rfl,fun hb=>?_,fun⟨h,_⟩=>by simp;omega⟩,rfl⟩
    have hb:(j:Int)<=20:=by simpa using hb
    exact⟨by omega,gs_of hI.out⟩
def sumq (n:Nat) (gs:List Nat):Nat:=(gs.map (· / n)).sum
theorem sumq_take {n i:Nat} {gs:List Nat} {g:Nat} (h:gs[i]?=some g):sumq n (gs.take (i+1))=sumq n (gs.take i)+g / n:=by
 unfold sumq
 have:gs.take (i+1)=gs.take i ++ [g]:=by rw[List.take_add_one,h];rfl
 rw[this,List.map_append,List.sum_append];simp
theorem close_led {Q F:Nat->Prop} {bs q r M N g n m d n7 c7:Nat} {R A7:Option Addr} {S:F1.Sta} {w:World} (hl:F1.Led S q r M N) (h:SF F bs w (F1.ents S)) (hcur:LQ Q w A7 n7 c7 g) (hn0:0<n) (hn:n<18446744073709551616) (hq:q<=100000) (hr:r+g / n<Gn.B ^ 30) (hM1:1<=M) (hM:M<=100000) (hN:N+1<=100000):
 Calls Tryz.prog 27 #[.pointer (some ⟨bs,0,none⟩),.int .u64 16,.agg #[.int .u64 0,.int .u64 (n:Int),.slice R m d,.bool false,.int .u64 0,.bool false,.int .u64 ((q:Int)+1),.slice A7 n7 c7,.slice none 0 0,.slice none 0 0]] w (StartR F bs w (F1.ents (F1.close S (q+1) n g)) (.tuple #[.agg #[.int .u64 0,.int .u64 (n:Int),.slice R m d,.bool false,.int .u64 0,.bool false,.int .u64 (((q+1:Nat):Int)+1),.slice none 0 0,.slice none 0 0,.slice none 0 0],.agg #[.slice none 0 0]])):=by
 have hr0:r<Gn.B ^ 30:=Nat.lt_of_le_of_lt (Nat.le_add_right _ _) hr
 have e3:(F1.hist S (q+1-1)).1=r:=by rw[Nat.add_sub_cancel];exact hl.last.1
 have hnx:=hl.next (x:=g / n) hM1
 exact close_c (S:=S) (cur:=g) ⟨0,n,R,m,d,false,0,false,q+1,A7,n7,c7,none,0,0,none,0,0⟩ (okay_led hl (by omega) hr0 (by omega) (by omega)) h hcur hn0 hn (Nat.succ_pos q) (show q+1+1<_ by omega) (by show(F1.hist S (q+1-1)).1+g / n<_;rw[e3];exact hr) (by show Okay { S with h:=F1.putR S.h (q+1,(F1.hist S (q+1-1)).1+g / n,1) };rw[e3];exact okay_led hnx (by omega) hr (by omega) hN)
theorem pay_c {w0 w:World} {F:Nat->Prop} {bs n q r M N m d ng cg:Nat} {R Ag:Option Addr} {gs:List Nat} {S:F1.Sta} (h0:New w0 w) (hF0:∀b,F b->w0.heap.size<=b) (hb0:w0.heap.size<=bs) (hgs:Gs w0 Ag gs) (hlen:gs.length=ng) (hng:ng<=20) (hl:F1.Led S q r M N) (h:SF F bs w (F1.ents S)) (hn0:0<n) (hn:n<18446744073709551616) (hq:q<=1000) (hM1:1<=M) (hM:M<=1000) (hN:N<=1000) (hr:r+ng*Gn.B ^ 4<Gn.B ^ 30):
 Calls Tryz.prog 41 #[.pointer (some ⟨bs,0,none⟩),.agg #[.int .u64 0,.int .u64 (n:Int),.slice R m d,.bool false,.int .u64 0,.bool false,.int .u64 ((q:Int)+1),.slice none 0 0,.slice none 0 0,.slice none 0 0],.slice Ag ng cg] w fun e w'=>e=.returned (.agg #[.int .u64 0,.int .u64 (n:Int),.slice R m d,.bool false,.int .u64 0,.bool false,.int .u64 (((q+ng:Nat):Int)+1),.slice none 0 0,.slice none 0 0,.slice none 0 0]) /\
  ∃F' S',SF F' bs w' (F1.ents S')/\Step F F' bs w w'/\F1.Led S' (q+ng) (r+sumq n gs) M (N+2*ng)/\S'.c=S.c/\∀p x,p<=q->F1.Held S q p x->F1.Held S' (q+ng) p x:=by
 obtain⟨W1,hW1⟩:∃W1,W1=w.alloc (.cells #[.int .u64 0,.int .u64 (n:Int),.slice R m d,.bool false,.int .u64 0,.bool false,.int .u64 ((q:Int)+1),.slice none 0 0,.slice none 0 0,.slice none 0 0] 28):=⟨_,rfl⟩
 obtain⟨W2,hW2⟩:∃W2,W2=W1.alloc (.cells #[.int .u64 0,.int .u64 0,.slice none 0 0,.bool false,.int .u64 0,.bool false,.int .u64 0,.slice none 0 0,.slice none 0 0,.slice none 0 0] 28):=⟨_,rfl⟩
 have s1:W1.heap.size=w.heap.size+1:=by rw[hW1];exact zad _ _
 have hg0:LG w F F bs (F1.ents S) [(w.heap.size+1,28,#[.int .u64 0,.int .u64 0,.slice none 0 0,.bool false,.int .u64 0,.bool false,.int .u64 0,.slice none 0 0,.slice none 0 0,.slice none 0 0]),(w.heap.size,28,#[.int .u64 0,.int .u64 (n:Int),.slice R m d,.bool false,.int .u64 0,.bool false,.int .u64 ((q:Int)+1),.slice none 0 0,.slice none 0 0,.slice none 0 0])] W2:=by
  have h1:=(LG.begin h).alloc #[.int .u64 0,.int .u64 (n:Int),.slice R m d,.bool false,.int .u64 0,.bool false,.int .u64 ((q:Int)+1),.slice none 0 0,.slice none 0 0,.slice none 0 0] 28
  rw[<-hW1]at h1
  have h2:=h1.alloc #[.int .u64 0,.int .u64 0,.slice none 0 0,.bool false,.int .u64 0,.bool false,.int .u64 0,.slice none 0 0,.slice none 0 0,.slice none 0 0] 28
  rw[<-hW2,s1]at h2
  exact h2
 have HG0:=zqH hg0;have HL:=zqH hl;have HW0:=zqH (And.intro h0 (And.intro hF0 hb0));have HGS:=zqH (And.intro hgs hlen);have HNN:=zqH (And.intro hn0 hn);have HB:=zqH (show q<=1000/\1<=M/\M<=1000/\N<=1000/\r+ng*Gn.B ^ 4<Gn.B ^ 30 from⟨hq,hM1,hM,hN,hr⟩)
 clear s1 hg0 hl h0 hF0 hb0 hgs hlen hn0 hn hq hM1 hM hN hr h
 go_enter Tryz.func41,Tryz.ntmps41
 go_upto_region 1 with fail
 rw[<-hW1,<-hW2]
 clear hW1 hW2
 obtain⟨b6,hb6⟩:∃b6,b6=w.heap.size+1:=⟨_,rfl⟩
 obtain⟨b4,hb4⟩:∃b4,b4=w.heap.size:=⟨_,rfl⟩
 rw[<-hb6]at HG0 ⊢
 rw[<-hb4]at HG0 ⊢
 clear hb6 hb4
 go_wp2
 go_loopw [7] (fun s7 wr=>∃(i qi:Nat),i<=ng/\s7=.int .i64 (i:Int)/\Hid (qi=q+i)/\Hid (∃(F':Nat->Prop) (S':F1.Sta) (ri:Nat),LG w F F' bs (F1.ents S') [(b6,28,#[.int .u64 0,.int .u64 0,.slice none 0 0,.bool false,.int .u64 0,.bool false,.int .u64 0,.slice none 0 0,.slice none 0 0,.slice none 0 0]),(b4,28,#[.int .u64 0,.int .u64 (n:Int),.slice R m d,.bool false,.int .u64 0,.bool false,.int .u64 ((qi:Int)+1),.slice none 0 0,.slice none 0 0,.slice none 0 0])] wr/\F1.Led S' qi ri M (N+2*i)/\ri=r+sumq n (gs.take i)/\ri<=r+i*Gn.B ^ 4/\S'.c=S.c/\∀p x,p<=q->F1.Held S q p x->F1.Held S' qi p x)) (fun s7 _=>ng-(intOf s7).toNat)
 case atStart=>exact⟨0,q,Nat.zero_le _,rfl,zqH rfl,zqH ⟨F,S,r,HG0.out,HL.out,by simp[sumq],by simp,rfl,fun p x _ hh=>hh⟩⟩
 case round=>
  obtain⟨i,qi,hi,rfl,hqi,hI⟩:=hrel
  obtain⟨F1',S1,ri,hI⟩:=hI.out
  have HI:=zqH hI
  clear hI
  by_cases hin:i<ng
  · obtain⟨g,hgi⟩:∃g,gs[i]?=some g:=⟨_,List.getElem?_eq_getElem (by rw[HGS.out.2];exact hin)⟩
    obtain⟨bg,og,Ai,ni,ci,rfl,hce,hn4,hgl⟩:=HGS.out.1 i g hgi
    have hnw:=HI.out.1.new HW0.out.1 HW0.out.2.1 HW0.out.2.2
    have hcw:wr.cell? ⟨bg,og+i,none⟩=some (.slice Ai ni ci):=(hnw.cell (a:=⟨bg,og+i,none⟩) (zqB w0 _ hce) id).trans hce
    have k4:=HI.out.1.k (i:=1) rfl
    have x7:=zaa k4 7 _ rfl
    have z7:=zac k4 7
    have HGI:=zqH (And.intro hgi (And.intro hgl (And.intro (zqL hgl.lt (zbj hn4)) hnw)))
    clear hgi hgl hn4 hce k4 hnw
    go_upto_region 5 with fail
    obtain⟨w1,hw1⟩:∃w1,w1=wr.setCell ⟨b4,7,none⟩ (.slice Ai ni ci):=⟨_,rfl⟩
    rw[<-hw1]
    have hu1:Upd (fun b=>b=b4) wr w1:=by rw[hw1];exact Upd.setCell wr _ rfl
    have k4a:=zab (HI.out.1.k (i:=1) rfl) (.slice Ai ni ci) (i:=7)
    simp only[List.setIfInBounds_toArray,List.set_cons_succ,List.set_cons_zero]at k4a
    rw[<-hw1]at k4a
    have hg1:=HI.out.1.set (i:=1) rfl hu1 k4a
    have hdn:g / n<=g:=Nat.div_le_self _ _
    have hrb:ri+g / n<Gn.B ^ 30/\ri+g / n<=r+(i+1)*Gn.B ^ 4:=by
     have h1:=HI.out.2.2.2.1
     have h2:=HGI.out.2.2.1
     have h3:=HB.out.2.2.2.2
     have h4:(i+1)*Gn.B ^ 4<=ng*Gn.B ^ 4:=Nat.mul_le_mul_right _ hin
     have h5:(i+1)*Gn.B ^ 4=i*Gn.B ^ 4+Gn.B ^ 4:=Nat.succ_mul _ _
     exact⟨by omega,by omega⟩
    have hqb:qi<=1020:=by have:=hqi.out;have:=HB.out.1;omega
    have hclo:=close_led (R:=R) (m:=m) (d:=d) (n:=n) HI.out.2.1 hg1.sf ((HGI.out.2.1.new HGI.out.2.2.2).upd hu1 (fun b hb e=>by
     have e:b=b4:=e
     have:=(HI.out.1.off _ (List.mem_of_getElem? (i:=1) rfl)).2.2
     have h3:w.heap.size<=b4:=this
     have h4:=HW0.out.1.size
     have hb:b<w0.heap.size:=hb
     omega)) HNN.out.1 HNN.out.2 (by omega) hrb.1 HB.out.2.1 (by have:=HB.out.2.2.1;omega) (by have:=HB.out.2.2.2.1;omega)
    obtain⟨q2,hq2⟩:∃q2,q2=qi+1:=⟨_,rfl⟩
    have hled:=HI.out.2.1.close n g HB.out.2.1
    have hheld:=fun p x (hp:p<=q) hh=>(HI.out.2.2.2.2.2 p x hp hh).close HI.out.2.1 (show p<=qi by have:=hqi.out;omega) n g
    rw[if_neg (by have:=HNN.out.1;omega)]at hled
    rw[<-hq2]at hclo hled
    have hcc:(F1.close S1 q2 n g).c=S.c:=(F1.close_cc _ _ _ _).trans HI.out.2.2.2.2.1
    rw[show qi+1=q2 from hq2.symm]at hheld
    have HCLO:=zqH hclo;have HG1:=zqH hg1;have HLED:=zqH (And.intro hled (And.intro hrb (And.intro hcc hheld)));have HQ2:=zqH hq2
    obtain⟨l0,l1,l2,l3,l4,l5,l6,l7,l8,l9⟩:=zqC k4a
    clear hu1 k4a hg1 hrb hclo hw1 x7 z7 hcw hq2 hled hheld hcc hqb hdn
    go_upto_region 3 with(go_at_call 27
                          refine HCLO.out.mono ?_
                          rintro e w2 ⟨rfl,F2,hsf2,st2⟩
                          have hg2:=HG1.out.step st2 hsf2
                          have HG2:=zqH hg2
                          obtain⟨g0,y0,g1,y1,g2,y2,g3,y3,g4,y4,g5,y5,g6,y6,g7,y7,g8,y8,g9,y9,hh,hset⟩:=put10 (hg2.k (i:=1) rfl) (.int .u64 0) (.int .u64 (n:Int)) (.slice R m d) (.bool false) (.int .u64 0) (.bool false) (.int .u64 ((q2:Int)+1)) (.slice none 0 0) (.slice none 0 0) (.slice none 0 0)
                          have HH:=zqH (And.intro hh hset)
                          clear HCLO hsf2 st2 hg2 hh hset)
    clear l0 l1 l2 l3 l4 l5 l6 l7 l8 l9 g0 y0 g1 y1 g2 y2 g3 y3 g4 y4 g5 y5 g6 y6 g7 y7 g8 y8 g9 y9
    obtain⟨hh,hset⟩:=HH.out
    obtain⟨W3,hW3,hh3,hset3⟩:=letW hh hset
    rw[hW3]
    have HG3:=zqH (HG2.out.set (i:=1) rfl hset3 hh3)
    clear hh hset hh3 hset3 hW3 HH
    go_wp2
    refine⟨⟨i+1,q2,by omega,by congr 1,zqH (by have:=HQ2.out;have:=hqi.out;omega),zqH ⟨F2,_,ri+g / n,HG3.out,?_,?_,HLED.out.2.1.2,HLED.out.2.2.1,HLED.out.2.2.2⟩⟩,by simp[intOf];omega⟩
    · have h1:=HLED.out.1
      exact h1
    · rw[sumq_take HGI.out.1,<-Nat.add_assoc,<-HI.out.2.2.1]
  · obtain rfl:i=ng:=by omega
    have k4:=HI.out.1.k (i:=1) rfl
    have k6:=HI.out.1.k (i:=0) rfl
    obtain⟨l0,l1,l2,l3,l4,l5,l6,l7,l8,l9⟩:=zqC k4
    obtain⟨g0,y0,g1,y1,g2,y2,g3,y3,g4,y4,g5,y5,g6,y6,g7,y7,g8,y8,g9,y9,hh,hset⟩:=put10 k6 (.int .u64 0) (.int .u64 (n:Int)) (.slice R m d) (.bool false) (.int .u64 0) (.bool false) (.int .u64 ((qi:Int)+1)) (.slice none 0 0) (.slice none 0 0) (.slice none 0 0)
    obtain⟨q0,q1,q2,q3,q4,q5,q6,q7,q8,q9⟩:=zqC hh
    have QQ:=zqH (And.intro q0 (And.intro q1 (And.intro q2 (And.intro q3 (And.intro q4 (And.intro q5 (And.intro q6 (And.intro q7 (And.intro q8 q9)))))))))
    have HEND:=zqH (HI.out.1.set (i:=0) rfl hset hh)
    clear q0 q1 q2 q3 q4 q5 q6 q7 q8 q9 hh hset k4 k6
    go_wp2
    obtain⟨q0,q1,q2,q3,q4,q5,q6,q7,q8,q9⟩:=QQ.out
    refine bodyPost_ret (by simp[results,Tryz.results41,go_sem,q0,q1,q2,q3,q4,q5,q6,q7,q8,q9];try rfl) rfl ?_
    have hq:=hqi.out
    subst hq
    refine⟨rfl,F1',S1,HEND.out.sf,HEND.out.st,?_,HI.out.2.2.2.2.1,HI.out.2.2.2.2.2⟩
    have e:ri=r+sumq n gs:=by rw[HI.out.2.2.1,List.take_of_length_le (by rw[HGS.out.2];exact Nat.le_refl _)]
    rw[<-e];exact HI.out.2.1
theorem ffree_c {F:Nat->Prop} {bs p:Nat} {v0 v2:Value} {w:World} {S:F1.Sta} (hS:Okay S) (hp:p<18446744073709551616) (h:SF F bs w (F1.ents S)) (h0:∃A n c,v0=.slice A n c) (h2:∃A n c,v2=.slice A n c):
 Calls Tryz.prog 42 #[.pointer (some ⟨bs,0,none⟩),.int .u64 16,.agg #[v0,.int .u64 (p:Int),v2]] w (StoR F bs w (F1.ents (F1.free S p))):=by
 obtain⟨A1,n1,c1,rfl⟩:=h0
 obtain⟨A2,n2,c2,rfl⟩:=h2
 obtain⟨W1,hW1⟩:∃W1,W1=w.alloc (.cells #[.slice A1 n1 c1,.int .u64 (p:Int),.slice A2 n2 c2] 55):=⟨_,rfl⟩
 have hn1:New w W1:=by rw[hW1];exact Upd.alloc _ _ _
 have b1:=Ex.alloc_new w (.cells #[.slice A1 n1 c1,.int .u64 (p:Int),.slice A2 n2 c2] 55)
 rw[<-hW1]at b1
 have x1:=zaa b1 1 _ rfl
 have hf:=free_c hS hp (h.new hn1)
 obtain⟨L,hL⟩:∃L,L=F1.ents (F1.free S p):=⟨_,rfl⟩
 rw[<-hL]at hf ⊢
 have HF:=zqH hf;have HN:=zqH hn1
 clear hf hn1 b1 hL h hS hp
 go_enter Tryz.func42,Tryz.ntmps42
 go_upto_region 1 with fail
 rw[<-hW1]
 clear hW1
 go_wp2_with (go_at_call 80;refine HF.out.mono ?_;rintro e w2 ⟨rfl,F',hsf,st⟩;have H2:=zqH (And.intro hsf st);clear HF hsf st)
 go_end0
 exact⟨by simp,F',H2.out.1,(Step.of_new HN.out).trans H2.out.2⟩
end Go.Proofs.YtbhnjkegkadodaaGreatDoor
