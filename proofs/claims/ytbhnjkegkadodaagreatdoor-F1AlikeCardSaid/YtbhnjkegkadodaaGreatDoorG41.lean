/- Part of the proof. -/
import Derived.Test.YtbhnjkegkadodaaGreatDoorLwJ
import Derived.Test.YtbhnjkegkadodaaGreatDoorG40
set_option linter.all false
set_option maxRecDepth 100000
set_option maxHeartbeats 8000000
namespace Go.Proofs.YtbhnjkegkadodaaGreatDoor
open Go Go.RowKit Go.Proofs Gl
theorem led_cut {S:F1.Sta} {q r M N t a:Nat} (h:F1.Led S q r M N):F1.Led (cutAt S q t a) q r M (N+1):=
 ⟨h.all,fun x hx=>(F1.mem_put hx).elim (fun e=>by rw[e];exact Nat.le_refl _) (h.cut x),by have:=F1.len_put S.c (q,t,a);have:=h.len;show S.h.length+(F1.putR S.c _).length<=_;omega,h.last,h.zero⟩
theorem held_cut {S:F1.Sta} {q p x t a:Nat} (h:F1.Held S q p x):F1.Held (cutAt S q t a) q p x:=h
theorem close_a {Q Q' F:Nat->Prop} {bs q r M N g n o m d n7 c7 n8 c8:Nat} {R A7 A8:Option Addr} {S:F1.Sta} {w:World} (hl:F1.Led S q r M N) (h:SF F bs w (F1.ents S)) (hcur:LQ Q w A7 n7 c7 g) (hout:n=0->LQ Q' w A8 n8 c8 o) (hn:n<18446744073709551616) (hq:q<=100000) (hr:r+g / n<Gn.B ^ 30) (hM1:1<=M) (hM:M<=100000) (hN:N+1<=100000):
 Calls Tryz.prog 27 #[.pointer (some ⟨bs,0,none⟩),.int .u64 16,.agg #[.int .u64 0,.int .u64 (n:Int),.slice R m d,.bool false,.int .u64 0,.bool false,.int .u64 ((q:Int)+1),.slice A7 n7 c7,.slice A8 n8 c8,.slice none 0 0]] w fun e w'=>∃B8 m8 d8 Ap np cp o2,e=.returned (.tuple #[.agg #[.int .u64 0,.int .u64 (n:Int),.slice R m d,.bool false,.int .u64 0,.bool false,.int .u64 (((q+1:Nat):Int)+1),.slice none 0 0,.slice B8 m8 d8,.slice none 0 0],.agg #[.slice Ap np cp]])/\(0<n->B8=A8/\m8=n8/\d8=c8) /\
  ∃F',SF F' bs w' (F1.ents (F1.close S (q+1) n g))/\Step F F' bs w w'/\(n=0->LN (fun b=>Off F' bs b/\w.heap.size<=b) w' B8 m8 d8 o2):=by
 have hr0:r<Gn.B ^ 30:=Nat.lt_of_le_of_lt (Nat.le_add_right _ _) hr
 have e3:(F1.hist S (q+1-1)).1=r:=by rw[Nat.add_sub_cancel];exact hl.last.1
 have hnx:=hl.next (x:=g / n) hM1
 refine(close_any (S:=S) (cur:=g) ⟨0,n,R,m,d,false,0,false,q+1,A7,n7,c7,A8,n8,c8,none,0,0⟩ (okay_led hl (by omega) hr0 (by omega) (by omega)) h hcur hout hn (Nat.succ_pos q) (show q+1+1<_ by omega) (by show(F1.hist S (q+1-1)).1+g / n<_;rw[e3];exact hr) (by show Okay { S with h:=F1.putR S.h (q+1,(F1.hist S (q+1-1)).1+g / n,1) };rw[e3];exact okay_led hnx (by omega) hr (by omega) hN)).mono ?_
 rintro e w' ⟨B8,m8,d8,Ap,np,cp,rfl,h1,F',h2,h3,h4⟩
 exact⟨B8,m8,d8,Ap,np,cp,o-g,rfl,fun h=>⟨(h1 h).1,(h1 h).2.1,(h1 h).2.2.1⟩,F',h2,h3,fun h=>(h4 h).2.2.2⟩
theorem pay_a {w0 w:World} {F:Nat->Prop} {bs n q r M N m d ng cg:Nat} {R Ag:Option Addr} {gs:List Nat} {S:F1.Sta} (h0:New w0 w) (hF0:∀b,F b->w0.heap.size<=b) (hb0:w0.heap.size<=bs) (hgs:Gs w0 Ag gs) (hlen:gs.length=ng) (hng:ng<=20) (hl:F1.Led S q r M N) (h:SF F bs w (F1.ents S)) (hn:n<18446744073709551616) (hq:q<=1000) (hM1:1<=M) (hM:M<=1000) (hN:N<=1000) (hr:r+ng*Gn.B ^ 4<Gn.B ^ 30):
 Calls Tryz.prog 41 #[.pointer (some ⟨bs,0,none⟩),.agg #[.int .u64 0,.int .u64 (n:Int),.slice R m d,.bool false,.int .u64 0,.bool false,.int .u64 ((q:Int)+1),.slice none 0 0,.slice none 0 0,.slice none 0 0],.slice Ag ng cg] w fun e w'=>∃B8 m8 d8,e=.returned (.agg #[.int .u64 0,.int .u64 (n:Int),.slice R m d,.bool false,.int .u64 0,.bool false,.int .u64 (((q+ng:Nat):Int)+1),.slice none 0 0,.slice B8 m8 d8,.slice none 0 0])/\(0<n->B8=none/\m8=0/\d8=0) /\
  ∃F' S',SF F' bs w' (F1.ents S')/\Step F F' bs w w'/\F1.Led S' (q+ng) (r+sumq n gs) M (N+2*ng)/\S'.c=S.c/\∀p x,p<=q->F1.Held S q p x->F1.Held S' (q+ng) p x:=by
 obtain⟨W1,hW1⟩:∃W1,W1=w.alloc (.cells #[.int .u64 0,.int .u64 (n:Int),.slice R m d,.bool false,.int .u64 0,.bool false,.int .u64 ((q:Int)+1),.slice none 0 0,.slice none 0 0,.slice none 0 0] 28):=⟨_,rfl⟩
 obtain⟨W2,hW2⟩:∃W2,W2=W1.alloc (.cells #[.int .u64 0,.int .u64 0,.slice none 0 0,.bool false,.int .u64 0,.bool false,.int .u64 0,.slice none 0 0,.slice none 0 0,.slice none 0 0] 28):=⟨_,rfl⟩
 have s1:W1.heap.size=w.heap.size+1:=by rw[hW1];exact zad _ _
 have hg0:LG w F F bs (F1.ents S) [(w.heap.size+1,28,#[.int .u64 0,.int .u64 0,.slice none 0 0,.bool false,.int .u64 0,.bool false,.int .u64 0,.slice none 0 0,.slice none 0 0,.slice none 0 0]),(w.heap.size,28,#[.int .u64 0,.int .u64 (n:Int),.slice R m d,.bool false,.int .u64 0,.bool false,.int .u64 ((q:Int)+1),.slice none 0 0,.slice none 0 0,.slice none 0 0])] W2:=by
  have h1:=(LG.begin h).alloc #[.int .u64 0,.int .u64 (n:Int),.slice R m d,.bool false,.int .u64 0,.bool false,.int .u64 ((q:Int)+1),.slice none 0 0,.slice none 0 0,.slice none 0 0] 28
  rw[<-hW1]at h1
  have h2:=h1.alloc #[.int .u64 0,.int .u64 0,.slice none 0 0,.bool false,.int .u64 0,.bool false,.int .u64 0,.slice none 0 0,.slice none 0 0,.slice none 0 0] 28
  rw[<-hW2,s1]at h2
  exact h2
 have HG0:=zqH hg0;have HL:=zqH hl;have HW0:=zqH (And.intro h0 (And.intro hF0 hb0));have HGS:=zqH (And.intro hgs hlen);have HNN:=zqH hn;have HB:=zqH (show q<=1000/\1<=M/\M<=1000/\N<=1000/\r+ng*Gn.B ^ 4<Gn.B ^ 30 from⟨hq,hM1,hM,hN,hr⟩)
 clear s1 hg0 hl h0 hF0 hb0 hgs hlen hn hq hM1 hM hN hr h
 go_enter Tryz.func41,Tryz.ntmps41
 go_upto_region 1 with fail
 rw[<-hW1,<-hW2]
 clear hW1 hW2
 obtain⟨b6,hb6⟩:∃b6,b6=w.heap.size+1:=⟨_,rfl⟩
 obtain⟨b4,hb4⟩:∃b4,b4=w.heap.size:=⟨_,rfl⟩
 rw[<-hb6]at HG0 ⊢
 rw[<-hb4]at HG0 ⊢
 clear hb6 hb4
 go_wp2
 go_loopw [7] (fun s7 wr=>∃(i qi:Nat),i<=ng/\s7=.int .i64 (i:Int)/\Hid (qi=q+i)/\Hid (∃(F':Nat->Prop) (S':F1.Sta) (ri:Nat) (B8:Option Addr) (m8 d8:Nat),LG w F F' bs (F1.ents S') [(b6,28,#[.int .u64 0,.int .u64 0,.slice none 0 0,.bool false,.int .u64 0,.bool false,.int .u64 0,.slice none 0 0,.slice none 0 0,.slice none 0 0]),(b4,28,#[.int .u64 0,.int .u64 (n:Int),.slice R m d,.bool false,.int .u64 0,.bool false,.int .u64 ((qi:Int)+1),.slice none 0 0,.slice B8 m8 d8,.slice none 0 0])] wr/\F1.Led S' qi ri M (N+2*i)/\ri=r+sumq n (gs.take i)/\ri<=r+i*Gn.B ^ 4/\S'.c=S.c/\(∀p x,p<=q->F1.Held S q p x->F1.Held S' qi p x)/\(0<n->B8=none/\m8=0/\d8=0)/\(n=0->∃o,LN (fun x=>Off F' bs x/\x≠b4/\x≠b6) wr B8 m8 d8 o))) (fun s7 _=>ng-(intOf s7).toNat)
 case atStart=>exact⟨0,q,Nat.zero_le _,rfl,zqH rfl,zqH ⟨F,S,r,none,0,0,HG0.out,HL.out,by simp[sumq],by simp,rfl,fun p x _ hh=>hh,fun _=>⟨rfl,rfl,rfl⟩,fun _=>⟨0,LN.nil _ _⟩⟩⟩
 case round=>
  obtain⟨i,qi,hi,rfl,hqi,hI⟩:=hrel
  obtain⟨F1',S1,ri,B8,m8,d8,hI⟩:=hI.out
  have HI:=zqH hI
  clear hI
  by_cases hin:i<ng
  · obtain⟨g,hgi⟩:∃g,gs[i]?=some g:=⟨_,List.getElem?_eq_getElem (by rw[HGS.out.2];exact hin)⟩
    obtain⟨bg,og,Ai,ni,ci,rfl,hce,hn4,hgl⟩:=HGS.out.1 i g hgi
    have hnw:=HI.out.1.new HW0.out.1 HW0.out.2.1 HW0.out.2.2
    have hcw:wr.cell? ⟨bg,og+i,none⟩=some (.slice Ai ni ci):=(hnw.cell (a:=⟨bg,og+i,none⟩) (zqB w0 _ hce) id).trans hce
    have k4:=HI.out.1.k (i:=1) rfl
    have x7:=zaa k4 7 _ rfl
    have z7:=zac k4 7
    have HGI:=zqH (And.intro hgi (And.intro hgl (And.intro (zqL hgl.lt (zbj hn4)) hnw)))
    clear hgi hgl hn4 hce k4 hnw
    go_upto_region 5 with fail
    obtain⟨w1,hw1⟩:∃w1,w1=wr.setCell ⟨b4,7,none⟩ (.slice Ai ni ci):=⟨_,rfl⟩
    rw[<-hw1]
    have hu1:Upd (fun b=>b=b4) wr w1:=by rw[hw1];exact Upd.setCell wr _ rfl
    have k4a:=zab (HI.out.1.k (i:=1) rfl) (.slice Ai ni ci) (i:=7)
    simp only[List.setIfInBounds_toArray,List.set_cons_succ,List.set_cons_zero]at k4a
    rw[<-hw1]at k4a
    have hg1:=HI.out.1.set (i:=1) rfl hu1 k4a
    have hdn:g / n<=g:=Nat.div_le_self _ _
    have hrb:ri+g / n<Gn.B ^ 30/\ri+g / n<=r+(i+1)*Gn.B ^ 4:=by
     have h1:=HI.out.2.2.2.1
     have h2:=HGI.out.2.2.1
     have h3:=HB.out.2.2.2.2
     have h4:(i+1)*Gn.B ^ 4<=ng*Gn.B ^ 4:=Nat.mul_le_mul_right _ hin
     have h5:(i+1)*Gn.B ^ 4=i*Gn.B ^ 4+Gn.B ^ 4:=Nat.succ_mul _ _
     exact⟨by omega,by omega⟩
    have hqb:qi<=1020:=by have:=hqi.out;have:=HB.out.1;omega
    have hou:n=0->∃o,LN (fun x=>Off F1' bs x/\x≠b4/\x≠b6) w1 B8 m8 d8 o:=fun h=>(HI.out.2.2.2.2.2.2.2 h).imp fun o ho=>ho.upd hu1 (fun x hx e=>hx.2.1 e)
    obtain⟨o,hou⟩:∃o,n=0->LN (fun x=>Off F1' bs x/\x≠b4/\x≠b6) w1 B8 m8 d8 o:=by
     rcases Nat.eq_zero_or_pos n with h|h
     · obtain⟨o,ho⟩:=hou h;exact⟨o,fun _=>ho⟩
     · exact⟨0,fun h2=>by omega⟩
    have hclo:=close_a (R:=R) (m:=m) (d:=d) (n:=n) HI.out.2.1 hg1.sf ((HGI.out.2.1.new HGI.out.2.2.2).upd hu1 (fun b hb e=>by
     have e:b=b4:=e
     have:=(HI.out.1.off _ (List.mem_of_getElem? (i:=1) rfl)).2.2
     have h3:w.heap.size<=b4:=this
     have h4:=HW0.out.1.size
     have hb:b<w0.heap.size:=hb
     omega)) (fun h=>(hou h).lq) HNN.out (by omega) hrb.1 HB.out.2.1 (by have:=HB.out.2.2.1;omega) (by have:=HB.out.2.2.2.1;omega)
    obtain⟨q2,hq2⟩:∃q2,q2=qi+1:=⟨_,rfl⟩
    have hled:=HI.out.2.1.close n g HB.out.2.1
    have hheld:=fun p x (hp:p<=q) hh=>(HI.out.2.2.2.2.2.1 p x hp hh).close HI.out.2.1 (show p<=qi by have:=hqi.out;omega) n g
    rw[show(if n=0 then 0 else g / n)=g / n from by split<;>simp[*]]at hled
    rw[<-hq2]at hclo hled
    have hcc:(F1.close S1 q2 n g).c=S.c:=(F1.close_cc _ _ _ _).trans HI.out.2.2.2.2.1
    rw[show qi+1=q2 from hq2.symm]at hheld
    have HCLO:=zqH hclo;have HG1:=zqH hg1;have HLED:=zqH (And.intro hled (And.intro hrb (And.intro hcc hheld)));have HQ2:=zqH hq2
    obtain⟨l0,l1,l2,l3,l4,l5,l6,l7,l8,l9⟩:=zqC k4a
    clear hu1 k4a hg1 hrb hclo hw1 x7 z7 hcw hq2 hled hheld hcc hqb hdn hou
    go_upto_region 3 with(go_at_call 27
                          refine HCLO.out.mono ?_
                          rintro e w2 ⟨E8,k8,f8,Ap,np,cp,o2,rfl,h81,F2,hsf2,st2,h82⟩
                          have hg2:=HG1.out.step st2 hsf2
                          have HG2:=zqH hg2
                          obtain⟨g0,y0,g1,y1,g2,y2,g3,y3,g4,y4,g5,y5,g6,y6,g7,y7,g8,y8,g9,y9,hh,hset⟩:=put10 (hg2.k (i:=1) rfl) (.int .u64 0) (.int .u64 (n:Int)) (.slice R m d) (.bool false) (.int .u64 0) (.bool false) (.int .u64 ((q2:Int)+1)) (.slice none 0 0) (.slice E8 k8 f8) (.slice none 0 0)
                          have HH:=zqH (And.intro hh hset)
                          have H8:=zqH (And.intro h81 h82)
                          clear HCLO hsf2 st2 hg2 hh hset h81 h82)
    clear l0 l1 l2 l3 l4 l5 l6 l7 l8 l9 g0 y0 g1 y1 g2 y2 g3 y3 g4 y4 g5 y5 g6 y6 g7 y7 g8 y8 g9 y9
    obtain⟨hh,hset⟩:=HH.out
    obtain⟨W3,hW3,hh3,hset3⟩:=letW hh hset
    rw[hW3]
    have HG3:=zqH (HG2.out.set (i:=1) rfl hset3 hh3)
    have hb46:=HG1.out.lt (List.mem_of_getElem? (i:=1) rfl)
    have hb66:=HG1.out.lt (List.mem_of_getElem? (i:=0) rfl)
    have h8n:n=0->∃o,LN (fun x=>Off F2 bs x/\x≠b4/\x≠b6) W3 E8 k8 f8 o:=fun h=>⟨o2,((H8.out.2 h).upd hset3 (fun x hx e=>by have e:x=b4:=e;have:=hx.2;simp only at hb46;omega)).mono (fun x _ hx=>⟨hx.1,by have:=hx.2;simp only at hb46;omega,by have:=hx.2;simp only at hb66;omega⟩)⟩
    have H8N:=zqH h8n
    clear hh hset hh3 hset3 hW3 HH hb46 hb66 h8n
    go_wp2
    refine⟨⟨i+1,q2,by omega,by congr 1,zqH (by have:=HQ2.out;have:=hqi.out;omega),zqH ⟨F2,_,ri+g / n,E8,k8,f8,HG3.out,?_,?_,HLED.out.2.1.2,HLED.out.2.2.1,HLED.out.2.2.2,fun h=>?_,H8N.out⟩⟩,by simp[intOf];omega⟩
    · have h1:=HLED.out.1
      exact h1
    · rw[sumq_take HGI.out.1,<-Nat.add_assoc,<-HI.out.2.2.1]
    · obtain⟨e1,e2,e3⟩:=H8.out.1 h;obtain⟨e4,e5,e6⟩:=HI.out.2.2.2.2.2.2.1 h;exact⟨e1.trans e4,e2.trans e5,e3.trans e6⟩
  · obtain rfl:i=ng:=by omega
    have k4:=HI.out.1.k (i:=1) rfl
    have k6:=HI.out.1.k (i:=0) rfl
    obtain⟨l0,l1,l2,l3,l4,l5,l6,l7,l8,l9⟩:=zqC k4
    obtain⟨g0,y0,g1,y1,g2,y2,g3,y3,g4,y4,g5,y5,g6,y6,g7,y7,g8,y8,g9,y9,hh,hset⟩:=put10 k6 (.int .u64 0) (.int .u64 (n:Int)) (.slice R m d) (.bool false) (.int .u64 0) (.bool false) (.int .u64 ((qi:Int)+1)) (.slice none 0 0) (.slice B8 m8 d8) (.slice none 0 0)
    obtain⟨q0,q1,q2,q3,q4,q5,q6,q7,q8,q9⟩:=zqC hh
    have QQ:=zqH (And.intro q0 (And.intro q1 (And.intro q2 (And.intro q3 (And.intro q4 (And.intro q5 (And.intro q6 (And.intro q7 (And.intro q8 q9)))))))))
    have HEND:=zqH (HI.out.1.set (i:=0) rfl hset hh)
    clear q0 q1 q2 q3 q4 q5 q6 q7 q8 q9 hh hset k4 k6
    go_wp2
    obtain⟨q0,q1,q2,q3,q4,q5,q6,q7,q8,q9⟩:=QQ.out
    refine bodyPost_ret (by simp[results,Tryz.results41,go_sem,q0,q1,q2,q3,q4,q5,q6,q7,q8,q9];try rfl) rfl ?_
    have hq:=hqi.out
    subst hq
    refine⟨B8,m8,d8,rfl,HI.out.2.2.2.2.2.2.1,F1',S1,HEND.out.sf,HEND.out.st,?_,HI.out.2.2.2.2.1,HI.out.2.2.2.2.2.1⟩
    have e:ri=r+sumq n gs:=by rw[HI.out.2.2.1,List.take_of_length_le (by rw[HGS.out.2];exact Nat.le_refl _)]
    rw[<-e];exact HI.out.2.1
end Go.Proofs.YtbhnjkegkadodaaGreatDoor
namespace Go.Proofs.YtbhnjkegkadodaaGreatDoor
open Go Go.RowKit Go.Proofs Gl
section
variable {F:Nat->Prop} {bs q r M N n x m d dp n8 c8:Nat} {R A1 As A8:Option Addr} {n1 c1 ns cs:Nat} {S:F1.Sta} {w:World}
theorem b30 {a:Nat} (h:a<Gn.B ^ 30):a<Gn.B ^ 1000:=zqL h (@zbj 30 1000 (by omega))
def OneCut (S:F1.Sta) (n r dp k:Nat):Prop:=(S.c=[]/\k=0)\/(∃p b,S.c=[(p,b,0)]/\(F1.hist S p).1=r/\dp<p/\b<18446744073709551616/\k=1)
theorem claim_a {kv:Int} {k:Nat} (qv dv:Int) (h1:qv=(q:Int)+1) (h2:dv=(dp:Int)) (h3:kv=(k:Int)) (hl:F1.Led S q r M N) (hc:OneCut S n r dp k) (h:SF F bs w (F1.ents S)) (hy:LQ (fun b=>b≠bs) w As ns cs x) {y:Nat} (hd:(F1.hist S dp).1=y) (hdp:dp<=100000) (hxb:x<Gn.B ^ 30) (hb:q<=100000/\r<Gn.B ^ 30/\M<=100000/\N<=100000):
 Calls Tryz.prog 19 #[.pointer (some ⟨bs,0,none⟩),.int .u64 16,.agg #[.int .u64 0,.int .u64 (n:Int),.slice R m d,.bool false,.int .u64 0,.bool false,.int .u64 qv,.slice none 0 0,.slice A8 n8 c8,.slice none 0 0],.agg #[.slice A1 n1 c1,.int .u64 dv,.slice As ns cs]] w (ClaimR F bs w (F1.ents S) (x*(r-y) / 10 ^ 36) kv):=by
 subst h1 h2 h3
 have e2:(F1.hist S (q+1-1)).1=r:=by rw[Nat.add_sub_cancel];exact hl.last.1
 have hxr:∀a,a<=r->x*a<Gn.B ^ 1000:=fun a ha=>pow5 hxb (Nat.lt_of_le_of_lt ha hb.2.1)
 have hxd:∀a,a<=r → 0+x*a / 10 ^ 36<Gn.B ^ 1000:=fun a ha=>by rw[Nat.zero_add];exact Nat.lt_of_le_of_lt (Nat.div_le_self _ _) (hxr a ha)
 have hcv:∀z ∈ S.c,z.1<18446744073709551616/\z.1<=q+1-1/\z.2.1<18446744073709551616/\z.2.2<18446744073709551616:=fun z hz=>by
  have hzq:=hl.cut z hz
  rcases hc with⟨hc,_⟩|⟨p,b,hc,_,_,hbb,_⟩
  · rw[hc]at hz;cases hz
  · rw[hc]at hz
    have:z=(p,b,0):=by simpa using hz
    subst this
    exact⟨by simp only at hzq ⊢;omega,hzq,hbb,by show(0:Nat)<_;decide⟩
 have hcl:=fun C s1 hC hs1 hok=>claim_c (S:=S) (C:=C) (s0:=⟨0,x,(F1.hist S dp).1,0⟩) (s1:=s1) (y:=x) (dp:=dp) (Ad:=A1) (nd:=n1) (cd:=c1) (As:=As) (ns:=ns) (cs:=cs) ⟨0,n,R,m,d,false,0,false,q+1,none,0,0,A8,n8,c8,none,0,0⟩ (okay_led hl (by omega) hb.2.1 (by omega) hb.2.2.2) h hy (Nat.succ_pos q) (show q+1<_ by omega) (by omega) hcv hC rfl hs1 hok
 have e3:∀C s1 (hC:C=S.c.filter (fun x=>decide (dp<x.1))) (hs1:s1=C.foldl (F1.cutS S) ⟨0,x,(F1.hist S dp).1,0⟩) (hok:F1.RunOk (Gn.B ^ 1000) S (q+1-1) C ⟨0,x,(F1.hist S dp).1,0⟩),(F1.earn S (q+1-1) s1).x=x*(r-y) / 10 ^ 36->s1.k=k->Calls Tryz.prog 19 #[.pointer (some ⟨bs,0,none⟩),.int .u64 16,.agg #[.int .u64 0,.int .u64 (n:Int),.slice R m d,.bool false,.int .u64 0,.bool false,.int .u64 ((q:Int)+1),.slice none 0 0,.slice A8 n8 c8,.slice none 0 0],.agg #[.slice A1 n1 c1,.int .u64 (dp:Int),.slice As ns cs]] w (ClaimR F bs w (F1.ents S) (x*(r-y) / 10 ^ 36) (k:Int)):=fun C s1 hC hs1 hok g1 g2=>by
  have:=hcl C s1 hC hs1 hok
  have this:Calls Tryz.prog 19 _ w (ClaimR F bs w (F1.ents S) (F1.earn S (q+1-1) s1).x (s1.k:Int)):=this
  rw[g1,g2]at this
  exact this
 rcases hc with⟨hc,hk⟩|⟨p,b,hc,hp,hdl,hbb,hk⟩
 · have hr0:∀B,(∀a,a<=r->x*a<B) → (∀a,a<=r → 0+x*a / 10 ^ 36<B)->F1.RunOk B S (q+1-1) [] ⟨0,x,(F1.hist S dp).1,0⟩:=fun B g1 g2=>by
    refine⟨?_,?_⟩
    · rw[e2,hd];exact g1 _ (Nat.sub_le _ _)
    · rw[e2,hd];exact g2 _ (Nat.sub_le _ _)
   refine e3 [] _ (by rw[hc];rfl) rfl (hr0 _ hxr hxd) ?_ hk.symm
   · show 0+x*((F1.hist S (q+1-1)).1-(F1.hist S dp).1) / 10 ^ 36=_
     rw[e2,hd,Nat.zero_add]
 · have ez:x*(0*10 ^ 36) / (b*10 ^ 36)=0:=by rw[Nat.zero_mul,Nat.mul_zero,Nat.zero_div]
   have hr1:∀B,(∀a,a<=r->x*a<B) → (∀a,a<=r → 0+x*a / 10 ^ 36<B)->F1.RunOk B S (q+1-1) [(p,b,0)] ⟨0,x,(F1.hist S dp).1,0⟩:=fun B g1 g2=>by
    have g0:0<B:=Nat.lt_of_le_of_lt (Nat.zero_le _) (g1 0 (Nat.zero_le _))
    refine⟨⟨⟨?_,?_⟩,?_⟩,⟨?_,?_⟩⟩
    · show x*((F1.hist S p).1-(F1.hist S dp).1)<_
      rw[hp,hd];exact g1 _ (Nat.sub_le _ _)
    · show 0+x*((F1.hist S p).1-(F1.hist S dp).1) / 10 ^ 36<_
      rw[hp,hd];exact g2 _ (Nat.sub_le _ _)
    · show x*(0*10 ^ 36)<_
      rw[Nat.zero_mul,Nat.mul_zero];exact g0
    · show x*(0*10 ^ 36) / (b*10 ^ 36)*_<_
      rw[ez,Nat.zero_mul];exact g0
    · show 0+x*((F1.hist S p).1-(F1.hist S dp).1) / 10 ^ 36+x*(0*10 ^ 36) / (b*10 ^ 36)*_ / 10 ^ 36<_
      rw[ez,Nat.zero_mul,Nat.zero_div,Nat.add_zero,hp,hd];exact g2 _ (Nat.sub_le _ _)
   refine e3 [(p,b,0)] _ (by rw[hc];simp[hdl]) rfl (hr1 _ hxr hxd) ?_ hk.symm
   · show 0+x*((F1.hist S p).1-(F1.hist S dp).1) / 10 ^ 36+x*(0*10 ^ 36) / (b*10 ^ 36)*_ / 10 ^ 36=_
     rw[ez,Nat.zero_mul,Nat.zero_div,Nat.add_zero,hp,hd,Nat.zero_add]
theorem cut_a (qv av:Int) (h1:qv=(q:Int)+1) (h2:av=0) (hl:F1.Led S q r M N) (h:SF F bs w (F1.ents S)) (hn:n<18446744073709551616) (hb:q<=100000/\r<Gn.B ^ 30/\M<=100000/\N+1<=100000):
 Calls Tryz.prog 43 #[.pointer (some ⟨bs,0,none⟩),.int .u64 16,.agg #[.int .u64 0,.int .u64 (n:Int),.slice R m d,.bool false,.int .u64 0,.bool false,.int .u64 qv,.slice none 0 0,.slice A8 n8 c8,.slice none 0 0],.int .u64 av] w (StartR F bs w (F1.ents (F1.refer (cutAt S q n 0) q)) (.agg #[.int .u64 0,.int .u64 0,.slice R m d,.bool false,.int .u64 0,.bool false,.int .u64 qv,.slice none 0 0,.slice A8 n8 c8,.slice none 0 0])):=by
 subst h1 h2
 have hh:=(hl.hist_le q).2
 exact cut_c (S:=S) (a:=0) ⟨0,n,R,m,d,false,0,false,q+1,none,0,0,A8,n8,c8,none,0,0⟩ (okay_led hl (by omega) hb.2.1 (by omega) (by omega)) h (Nat.succ_pos q) (show q+1<_ by omega) hn (by decide) (by show Okay (cutAt S (q+1-1) n 0);rw[Nat.add_sub_cancel];exact okay_led (led_cut hl) (by omega) hb.2.1 (by omega) hb.2.2.2) (by show(F1.hist S (q+1-1)).2+1<_;rw[Nat.add_sub_cancel];omega)
end
end Go.Proofs.YtbhnjkegkadodaaGreatDoor
