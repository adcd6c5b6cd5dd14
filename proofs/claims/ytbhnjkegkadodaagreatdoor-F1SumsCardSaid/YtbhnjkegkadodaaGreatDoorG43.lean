/- Part of the proof. -/
import Derived.Test.YtbhnjkegkadodaaGreatDoorG41
import Derived.Test.YtbhnjkegkadodaaGreatDoorG42
import Derived.Test.YtbhnjkegkadodaaGreatDoorG38
set_option linter.all false
set_option maxRecDepth 100000
set_option maxHeartbeats 8000000
section
open Go.Proofs.YtbhnjkegkadodaaGreatDoor
namespace Gz
open Go Go.RowKit Go.Proofs Gl
theorem okay_s {S:F1.Sta} (h:S.h.all (fun x=>decide (x.1<18446744073709551616) && decide (x.2.1<Gn.B ^ 30) && decide (x.2.2<18446744073709551616))=true) (hc:S.c.all (fun x=>decide (x.1<18446744073709551616))=true) (hl:S.h.length+S.c.length<=100000):Okay S:=by
 have hh:∀x ∈ S.h,x.1<18446744073709551616/\x.2.1<Gn.B ^ 30/\x.2.2<18446744073709551616:=fun x hx=>by
  have:=List.all_eq_true.1 h x hx;simp only[Bool.and_eq_true,decide_eq_true_eq]at this;exact⟨this.1.1,this.1.2,this.2⟩
 exact⟨⟨fun x hx=>(hh x hx).1,fun x hx=>by have:=List.all_eq_true.1 hc x hx;simpa using this⟩,fun x hx=>⟨by
  have:=F1.nb_le (x:=x.2.1) (k:=240) (by
   have e:Gn.B=256 ^ 8:=by decide
   have h1:=(hh x hx).2.1;rw[e,<-Nat.pow_mul]at h1;exact h1)
  omega,(hh x hx).2.2⟩,hl⟩
theorem run_mono {B B':Nat} {S:F1.Sta} {q:Nat} (hb:B<=B'):∀ {C:List F1.Rec} {s:F1.Clm},F1.RunOk B S q C s->F1.RunOk B' S q C s
 | [],_,h=>⟨zqL h.b1 hb,zqL h.b2 hb⟩
 | _ :: _,_,h=>⟨⟨⟨zqL h.1.b1 hb,zqL h.1.b2 hb⟩,zqL h.1.b3 hb⟩,run_mono hb h.2⟩
def s1:F1.Sta:=⟨[(0,0,1)],[]⟩
def s2:F1.Sta:=⟨[(0,0,2)],[]⟩
def s3:F1.Sta:=⟨[(0,0,1),(1,2500000000000000000000000000000000000,1)],[]⟩
def s4:F1.Sta:=⟨[(0,0,1),(2,2500000000000000000000000000000000000,1)],[]⟩
def s5:F1.Sta:=⟨[(0,0,1),(2,2500000000000000000000000000000000000,2)],[(2,4,2)]⟩
def s6:F1.Sta:=⟨[(0,0,1),(2,2500000000000000000000000000000000000,1),(3,7500000000000000000000000000000000000,1)],[(2,4,2)]⟩
def s7:F1.Sta:=⟨[(2,2500000000000000000000000000000000000,1),(3,7500000000000000000000000000000000000,1)],[(2,4,2)]⟩
theorem ok1:Okay s1:=okay_s (by decide +kernel) (by decide +kernel) (by decide)
theorem ok2:Okay s2:=okay_s (by decide +kernel) (by decide +kernel) (by decide)
theorem ok3:Okay s3:=okay_s (by decide +kernel) (by decide +kernel) (by decide)
theorem ok4:Okay s4:=okay_s (by decide +kernel) (by decide +kernel) (by decide)
theorem ok5:Okay s5:=okay_s (by decide +kernel) (by decide +kernel) (by decide)
theorem ok6:Okay s6:=okay_s (by decide +kernel) (by decide +kernel) (by decide)
theorem ok7:Okay s7:=okay_s (by decide +kernel) (by decide +kernel) (by decide)
end Gz
end
section
open Go.Proofs.YtbhnjkegkadodaaGreatDoor
namespace Gz
open Go Go.RowKit Go.Proofs Gl
section
variable {F Q Q':Nat->Prop} {bs m d m' d':Nat} {R R' As:Option Addr} {ns cs:Nat} {w:World}
theorem kn13 (h:SF F bs w []):
 Calls Tryz.prog 13 #[.pointer (some ⟨bs,0,none⟩),.int .u64 16,.agg #[.int .u64 0,.int .u64 4,.slice R m d,.bool false,.int .u64 0,.bool false,.int .u64 0,.slice none 0 0,.slice none 0 0,.slice none 0 0]] w (StartR F bs w (F1.ents s1) (.agg #[.int .u64 0,.int .u64 4,.slice R m d,.bool false,.int .u64 0,.bool false,.int .u64 1,.slice none 0 0,.slice none 0 0,.slice none 0 0])):=
 start_led (n:=4) h
theorem kn25 (h:SF F bs w (F1.ents s1)) (hy:LQ Q w R m d (4*10 ^ 36)) (hx:LQ Q' w R' m' d' (1*10 ^ 36)):
 Calls Tryz.prog 25 #[.pointer (some ⟨bs,0,none⟩),.int .u64 16,.agg #[.int .u64 0,.int .u64 4,.slice R m d,.bool false,.int .u64 0,.bool false,.int .u64 1,.slice none 0 0,.slice none 0 0,.slice none 0 0],.agg #[.slice R' m' d',.int .u64 0,.slice none 0 0]] w (fun e w'=>∃R3 m3 d3,e=.returned (.agg #[.slice R' m' d',.int .u64 0,.slice R3 m3 d3])/\∃F',SF F' bs w' (F1.ents s2)/\Step F F' bs w w'/\LN (fun b=>Off F' bs b/\w.heap.size<=b) w' R3 m3 d3 (1*10 ^ 36)):=by
 have e:F1.refer s1 0=s2:=by rfl
 have e2:1*10 ^ 36*(4*10 ^ 36) / (4*10 ^ 36)=1*10 ^ 36:=by decide
 have:=hold_c (S:=s1) (dp:=0) (As:=none) (ns:=0) (cs:=0) ⟨0,4,R,m,d,false,0,false,1,none,0,0,none,0,0,none,0,0⟩ ok1 h hy hx (show 0<4*10 ^ 36 by decide) (show(4:Nat)<18446744073709551616 by decide) (zqL (show 1*10 ^ 36*(4*10 ^ 36)<Gn.B ^ 10 by decide) (@zbe 10 1000 (by omega))) (show 0<(1:Nat) by decide) (show(1:Nat)<18446744073709551616 by decide) (show 1+1<18446744073709551616 by decide);simp only[e,e2,Nat.sub_self]at this;exact this
theorem kn27a (h:SF F bs w (F1.ents s2)) (hc:LQ Q w R' m' d' (10*10 ^ 36)):
 Calls Tryz.prog 27 #[.pointer (some ⟨bs,0,none⟩),.int .u64 16,.agg #[.int .u64 0,.int .u64 4,.slice R m d,.bool false,.int .u64 0,.bool false,.int .u64 1,.slice R' m' d',.slice none 0 0,.slice none 0 0]] w (StartR F bs w (F1.ents s3) (.tuple #[.agg #[.int .u64 0,.int .u64 4,.slice R m d,.bool false,.int .u64 0,.bool false,.int .u64 2,.slice none 0 0,.slice none 0 0,.slice none 0 0],.agg #[.slice none 0 0]])):=by
 have e:F1.close s2 1 4 (10*10 ^ 36)=s3:=by kernel_rfl
 have:=close_c (S:=s2) (cur:=(10*10 ^ 36)) ⟨0,4,R,m,d,false,0,false,1,R',m',d',none,0,0,none,0,0⟩ ok2 h hc (show 0<(4:Nat) by decide) (show(4:Nat)<18446744073709551616 by decide) (show 0<(1:Nat) by decide) (show(2:Nat)<18446744073709551616 by decide) (show(F1.hist s2 (1-1)).1+(10*10 ^ 36) / 4<Gn.B ^ 30 by decide +kernel) (show Okay { s2 with h:=F1.putR s2.h (1,(F1.hist s2 (1-1)).1+(10*10 ^ 36) / 4,1) } from(okay_s (by decide +kernel) (by decide +kernel) (by decide)));simp only[e]at this;exact this
theorem kn19a (h:SF F bs w (F1.ents s3)) (hy:LQ (fun b=>b≠bs) w As ns cs (1*10 ^ 36)):
 Calls Tryz.prog 19 #[.pointer (some ⟨bs,0,none⟩),.int .u64 16,.agg #[.int .u64 0,.int .u64 4,.slice R m d,.bool false,.int .u64 0,.bool false,.int .u64 2,.slice none 0 0,.slice none 0 0,.slice none 0 0],.agg #[.slice R' m' d',.int .u64 0,.slice As ns cs]] w (ClaimR F bs w (F1.ents s3) 2500000000000000000000000000000000000 0):=by
 have a1:F1.RunOk (Gn.B ^ 10) s3 (2-1) [] ⟨0,1*10 ^ 36,(F1.hist s3 0).1,0⟩:=⟨by decide +kernel,by decide +kernel⟩
 have e:(F1.earn s3 (2-1) (([]:List F1.Rec).foldl (F1.cutS s3) ⟨0,1*10 ^ 36,(F1.hist s3 0).1,0⟩)).x=2500000000000000000000000000000000000:=by kernel_rfl
 have:=claim_c (S:=s3) (y:=1*10 ^ 36) (dp:=0) (Ad:=R') (nd:=m') (cd:=d') (As:=As) (ns:=ns) (cs:=cs) (C:=[]) ⟨0,4,R,m,d,false,0,false,2,none,0,0,none,0,0,none,0,0⟩ ok3 h hy (show 0<(2:Nat) by decide) (show(2:Nat)<18446744073709551616 by decide) (show(1:Nat)<18446744073709551616 by decide) (fun x hx=>by
  cases hx
  ) (by kernel_rfl) rfl rfl (run_mono (@zbe 10 1000 (by omega)) a1)
 simp only[e]at this;exact this
theorem kn27b (h:SF F bs w (F1.ents s3)):
 Calls Tryz.prog 27 #[.pointer (some ⟨bs,0,none⟩),.int .u64 16,.agg #[.int .u64 0,.int .u64 4,.slice R m d,.bool false,.int .u64 0,.bool false,.int .u64 2,.slice none 0 0,.slice none 0 0,.slice none 0 0]] w (StartR F bs w (F1.ents s4) (.tuple #[.agg #[.int .u64 0,.int .u64 4,.slice R m d,.bool false,.int .u64 0,.bool false,.int .u64 3,.slice none 0 0,.slice none 0 0,.slice none 0 0],.agg #[.slice none 0 0]])):=by
 have e:F1.close s3 2 4 0=s4:=by kernel_rfl
 have:=close_c (S:=s3) (cur:=0) ⟨0,4,R,m,d,false,0,false,2,none,0,0,none,0,0,none,0,0⟩ ok3 h (LN.nil (fun _=>True) w).lq (show 0<(4:Nat) by decide) (show(4:Nat)<18446744073709551616 by decide) (show 0<(2:Nat) by decide) (show(3:Nat)<18446744073709551616 by decide) (show(F1.hist s3 (2-1)).1+0 / 4<Gn.B ^ 30 by decide +kernel) (show Okay { s3 with h:=F1.putR s3.h (2,(F1.hist s3 (2-1)).1+0 / 4,1) } from(okay_s (by decide +kernel) (by decide +kernel) (by decide)));simp only[e]at this;exact this
theorem kn43 (h:SF F bs w (F1.ents s4)):
 Calls Tryz.prog 43 #[.pointer (some ⟨bs,0,none⟩),.int .u64 16,.agg #[.int .u64 0,.int .u64 4,.slice R m d,.bool false,.int .u64 0,.bool false,.int .u64 3,.slice none 0 0,.slice none 0 0,.slice none 0 0],.int .u64 2] w (StartR F bs w (F1.ents s5) (.agg #[.int .u64 0,.int .u64 2,.slice R m d,.bool false,.int .u64 0,.bool false,.int .u64 3,.slice none 0 0,.slice none 0 0,.slice none 0 0])):=by
 have e:F1.refer (cutAt s4 2 4 2) 2=s5:=by rfl
 have:=cut_c (S:=s4) (a:=2) ⟨0,4,R,m,d,false,0,false,3,none,0,0,none,0,0,none,0,0⟩ ok4 h (show 0<(3:Nat) by decide) (show(3:Nat)<18446744073709551616 by decide) (show(4:Nat)<18446744073709551616 by decide) (show(2:Nat)<18446744073709551616 by decide) (show Okay (cutAt s4 2 4 2) from(okay_s (by decide +kernel) (by decide +kernel) (by decide))) (show 1+1<18446744073709551616 by decide);simp only[show 3-1=2 from rfl,e]at this;exact this
theorem kn27c (h:SF F bs w (F1.ents s5)) (hc:LQ Q w R' m' d' (10*10 ^ 36)):
 Calls Tryz.prog 27 #[.pointer (some ⟨bs,0,none⟩),.int .u64 16,.agg #[.int .u64 0,.int .u64 2,.slice R m d,.bool false,.int .u64 0,.bool false,.int .u64 3,.slice R' m' d',.slice none 0 0,.slice none 0 0]] w (StartR F bs w (F1.ents s6) (.tuple #[.agg #[.int .u64 0,.int .u64 2,.slice R m d,.bool false,.int .u64 0,.bool false,.int .u64 4,.slice none 0 0,.slice none 0 0,.slice none 0 0],.agg #[.slice none 0 0]])):=by
 have e:F1.close s5 3 2 (10*10 ^ 36)=s6:=by kernel_rfl
 have:=close_c (S:=s5) (cur:=(10*10 ^ 36)) ⟨0,2,R,m,d,false,0,false,3,R',m',d',none,0,0,none,0,0⟩ ok5 h hc (show 0<(2:Nat) by decide) (show(2:Nat)<18446744073709551616 by decide) (show 0<(3:Nat) by decide) (show(4:Nat)<18446744073709551616 by decide) (show(F1.hist s5 (3-1)).1+(10*10 ^ 36) / 2<Gn.B ^ 30 by decide +kernel) (show Okay { s5 with h:=F1.putR s5.h (3,(F1.hist s5 (3-1)).1+(10*10 ^ 36) / 2,1) } from(okay_s (by decide +kernel) (by decide +kernel) (by decide)));simp only[e]at this;exact this
theorem kn19b (h:SF F bs w (F1.ents s6)) (hy:LQ (fun b=>b≠bs) w As ns cs (1*10 ^ 36)):
 Calls Tryz.prog 19 #[.pointer (some ⟨bs,0,none⟩),.int .u64 16,.agg #[.int .u64 0,.int .u64 2,.slice R m d,.bool false,.int .u64 0,.bool false,.int .u64 4,.slice none 0 0,.slice none 0 0,.slice none 0 0],.agg #[.slice R' m' d',.int .u64 0,.slice As ns cs]] w (ClaimR F bs w (F1.ents s6) 5000000000000000000000000000000000000 1):=by
 have a1:F1.RunOk (Gn.B ^ 10) s6 (4-1) [(2,4,2)] ⟨0,1*10 ^ 36,(F1.hist s6 0).1,0⟩:=⟨⟨⟨by decide +kernel,by decide +kernel⟩,by decide +kernel⟩,⟨by decide +kernel,by decide +kernel⟩⟩
 have e:(F1.earn s6 (4-1) (([(2,4,2)]:List F1.Rec).foldl (F1.cutS s6) ⟨0,1*10 ^ 36,(F1.hist s6 0).1,0⟩)).x=5000000000000000000000000000000000000:=by kernel_rfl
 have:=claim_c (S:=s6) (y:=1*10 ^ 36) (dp:=0) (Ad:=R') (nd:=m') (cd:=d') (As:=As) (ns:=ns) (cs:=cs) (C:=[(2,4,2)]) ⟨0,2,R,m,d,false,0,false,4,none,0,0,none,0,0,none,0,0⟩ ok6 h hy (show 0<(4:Nat) by decide) (show(4:Nat)<18446744073709551616 by decide) (show(1:Nat)<18446744073709551616 by decide) (fun x hx=>by
  have:x=(2,4,2):=by simpa[s6] using hx
  subst this;exact⟨by decide,by show 2<=4-1;decide,by decide,by decide⟩) (by kernel_rfl) rfl rfl (run_mono (@zbe 10 1000 (by omega)) a1)
 simp only[e]at this;exact this
theorem kn42 (h:SF F bs w (F1.ents s6)):
 Calls Tryz.prog 42 #[.pointer (some ⟨bs,0,none⟩),.int .u64 16,.agg #[.slice R' m' d',.int .u64 0,.slice As ns cs]] w (StoR F bs w (F1.ents s7)):=by
 have e:F1.free s6 0=s7:=by rfl
 have:=ffree_c (S:=s6) (p:=0) (v0:=.slice R' m' d') (v2:=.slice As ns cs) ok6 (by decide) h ⟨_,_,_,rfl⟩ ⟨_,_,_,rfl⟩;rw[e]at this;exact this
end
end Gz
end
section
open Go.Proofs.YtbhnjkegkadodaaGreatDoor
namespace Gz
open Go Go.RowKit Go.Proofs Gl
attribute [local go_sem] Oper.semAt_some
theorem known_c {w:World} (hl:Laid3 w):Calls Tryz.prog 9 #[] w fun e w'=>e=.returned (.bool true)/\New w w':=by
 have m3:=zqH hl;clear hl;go_enter Tryz.func9,Tryz.ntmps9
 go_upto_region 4 with(go_at_call 12;refine knew_f.mono ?_;rintro e w1 ⟨bs,F,rfl,a1,hn,hF,p6⟩;have H1:=zqH (zN a1 (zN hn (zN hF p6)));clear a1 hn hF p6)
 go_upto_region 5 with(first
  | (go_at_call 24;refine(of_c (w:=w1) 4 (by decide)).mono ?_;rintro e w2 ⟨R,m,d,rfl,hr,hn⟩;have H2:=zqH (zN hr hn);clear hr hn)
  | (go_at_call 13;refine(kn13 (H1.out.1.new H2.out.2)).mono ?_;rintro e w3 ⟨rfl,F3,a1,st⟩;have H3:=zqH (zN a1 st);clear a1 st))
 have HG:=zqH ((LG.begin H1.out.1).nw H2.out.2);have N2:=zqH (H2.out.1.po_of (LG.begin H1.out.1));obtain⟨W4,k8⟩:∃W,W=w3.alloc (.cells #[.int .u64 0,.int .u64 4,.slice R m d,.bool false,.int .u64 0,.bool false,.int .u64 1,.slice none 0 0,.slice none 0 0,.slice none 0 0] 28):=⟨_,rfl⟩
 rw[<-k8];have g:=(HG.out.step H3.out.2 H3.out.1).alloc #[.int .u64 0,.int .u64 4,.slice R m d,.bool false,.int .u64 0,.bool false,.int .u64 1,.slice none 0 0,.slice none 0 0,.slice none 0 0] 28;rw[<-k8]at g;have q:=(N2.out.po_step H3.out.2).po_alloc #[.int .u64 0,.int .u64 4,.slice R m d,.bool false,.int .u64 0,.bool false,.int .u64 1,.slice none 0 0,.slice none 0 0,.slice none 0 0] 28;rw[<-k8]at q;replace HG:=zqH g;replace N2:=zqH q;have HW:=zqH (zN H1.out.2.2.1 (zN H1.out.2.2.2 H1.out.2.1));obtain⟨b2,o3⟩:=zE w3.heap.size;rw[<-o3]at HG N2 ⊢;clear g q k8 o3 H1 H2 H3
 go_cut [3] (fun s3 wx=>∃(g:Nat) (RZ:Option Addr) (mZ dZ:Nat) (RD:Option Addr) (mD dD:Nat),s3=.pointer (some ⟨g,0,none⟩)/\Hid (∃F4,LG w1 F F4 bs (F1.ents s2) [(g,55,#[.slice RZ mZ dZ,.int .u64 0,.slice RD mD dD]),(b2,28,#[.int .u64 0,.int .u64 4,.slice R m d,.bool false,.int .u64 0,.bool false,.int .u64 1,.slice none 0 0,.slice none 0 0,.slice none 0 0])] wx/\LN (PO F4 bs [(g,55,#[.slice RZ mZ dZ,.int .u64 0,.slice RD mD dD]),(b2,28,#[.int .u64 0,.int .u64 4,.slice R m d,.bool false,.int .u64 0,.bool false,.int .u64 1,.slice none 0 0,.slice none 0 0,.slice none 0 0])]) wx R m d (4*10 ^ 36)/\LN (PO F4 bs [(g,55,#[.slice RZ mZ dZ,.int .u64 0,.slice RD mD dD]),(b2,28,#[.int .u64 0,.int .u64 4,.slice R m d,.bool false,.int .u64 0,.bool false,.int .u64 1,.slice none 0 0,.slice none 0 0,.slice none 0 0])]) wx RD mD dD (1*10 ^ 36)))
 case first=>
  have G0:=zqH (HG.out.nw ((Upd.refl _ W4).drew));have N0:=zqH (N2.out.po_new ((Upd.refl _ W4).drew));have m4:=G0.out.k (i:=0) rfl;clear HG N2;refine beginK 6 (fun w'=>w'.heap[b2]?=some (.cells #[.int .u64 0,.int .u64 4,.slice R m d,.bool false,.int .u64 0,.bool false,.int .u64 1,.slice none 0 0,.slice none 0 0,.slice none 0 0] 28 (0,0))) (by kernel_rfl) (fun a2=>?_);refine takeK 0 [0] rfl (by kernel_rfl) (by kernel_rfl) (by kernel_rfl) (by kernel_rfl) a2 (fun _ _ _ h=>h) (v:=.pointer (some ⟨bs,0,none⟩)) (Or.inl ⟨by rfl,?_⟩) m4 (fun hcl2=>?_)
  · intro w' _;go_simp
  simp only[Act.put,zqP];replace a2:=hcl2;clear hcl2;refine takeK 1 [1] rfl (by kernel_rfl) (by kernel_rfl) (by kernel_rfl) (by kernel_rfl) a2 (fun _ _ _ h=>h) (v:=.agg #[.int .u64 0,.int .u64 4,.slice R m d,.bool false,.int .u64 0,.bool false,.int .u64 1,.slice none 0 0,.slice none 0 0,.slice none 0 0]) (Or.inl ⟨by rfl,?_⟩) m4 (fun hcl2=>?_)
  · intro w' hk;obtain⟨y0,y1,y2,y3,y4,y5,y6,y7,y8,y9⟩:=zqC hk;go_simp
  simp only[Act.put,zqP];replace a2:=hcl2;clear hcl2;refine twoK 2 5 rfl rfl (by kernel_rfl) a2 (by rfl) (by rfl) (fun K hK=>?_) (fun K hK=>?_)
  ·
    go_simp
    refine(of_c 1 (by decide)).mono ?_
    rintro e wz ⟨RZ,mZ,dZ,rfl,hz,hn⟩;have G1:=zqH (G0.out.nw hn);have N1:=zqH (N0.out.po_new hn);have Z1:=zqH (hz.po_of G0.out);have k4:=G1.out.k (i:=0) rfl;clear hz hn;refine hK _ _ (fun _=>k4) (fun hcl2=>?_);clear a2 hK K;(try simp only[Act.put,zqP]);replace a2:=hcl2;clear hcl2;refine takeK 3 [3] rfl (by kernel_rfl) (by kernel_rfl) (by kernel_rfl) (by kernel_rfl) a2 (fun _ _ _ h=>h) (v:=.agg #[.slice RZ mZ dZ,.int .u64 0,.slice none 0 0]) (Or.inl ⟨by rfl,?_⟩) k4 (fun hcl2=>?_)
    · intro w' _;go_simp
    simp only[Act.put,zqP];replace a2:=hcl2;clear hcl2;refine twoK 4 5 rfl rfl (by kernel_rfl) a2 (by rfl) (by rfl) (fun K hK=>?_) (fun K hK=>?_)
    ·
      go_simp
      refine(kn25 G1.out.sf N1.out.lq Z1.out.lq).mono ?_
      rintro e wd ⟨RD,mD,dD,rfl,F4,a1,st,hd⟩;have G2:=zqH (G1.out.step st a1);have N2:=zqH (N1.out.po_step st);have D2:=zqH (hd.po_hold G1.out);have g5:=G2.out.k (i:=0) rfl;clear a1 st hd;refine hK _ _ (fun _=>g5) (fun hcl2=>?_);clear a2 hK K;(try simp only[Act.put,zqP]);replace a2:=hcl2;clear hcl2;refine oneK 5 rfl (by kernel_rfl) a2 (by rfl) (fun K hK=>?_);go_simp;obtain⟨wa,e9⟩:=zE (wd.alloc (.cells #[.slice none 0 0,.int .u64 0,.slice none 0 0] 55));rw[<-e9];have e7:wd.alloc (.cells #[.slice none 0 0,.int .u64 0,.slice none 0 0] 55)=wa:=(by rw[e9]);have g3:=G2.out.alloc #[.slice none 0 0,.int .u64 0,.slice none 0 0] 55;rw[e7]at g3;have G3:=zqH g3;have qN:=N2.out.po_alloc #[.slice none 0 0,.int .u64 0,.slice none 0 0] 55;rw[e7]at qN;have N3:=zqH qN;have qD:=D2.out.po_alloc #[.slice none 0 0,.int .u64 0,.slice none 0 0] 55;rw[e7]at qD;have D3:=zqH qD;clear e9 e7 g3 qN qD;have i4:=G3.out.k (i:=1) rfl;refine hK _ _ (fun _=>i4) (fun hcl2=>?_);clear a2 hK K;(try simp only[Act.put,zqP]);replace a2:=hcl2;clear hcl2;obtain⟨g0,z0,g1,z1,g2,z2,hh,d0⟩:=put3 (G3.out.k (i:=0) rfl) (.slice RZ mZ dZ) (.int .u64 0) (.slice RD mD dD);refine oneK 6 rfl (by kernel_rfl) a2 (by rfl) (fun K hK=>?_);go_simp;refine hK _ _ (fun h=>absurd rfl h) (fun _=>?_);clear a2 hK K;(try simp only[Act.put,zqP]);refine doneK (by kernel_rfl) ?_ _;go_wp2;go_meet;exact⟨_,RZ,mZ,dZ,RD,mD,dD,rfl,zqH ⟨F4,G3.out.set (i:=0) rfl d0 hh,N3.out.po_set (i:=0) rfl d0,D3.out.po_set (i:=0) rfl d0⟩⟩
    ·
      go_simp
      obtain⟨wa,e9⟩:=zE (wz.alloc (.cells #[.slice none 0 0,.int .u64 0,.slice none 0 0] 55));rw[<-e9];have e7:wz.alloc (.cells #[.slice none 0 0,.int .u64 0,.slice none 0 0] 55)=wa:=(by rw[e9]);have g3:=G1.out.alloc #[.slice none 0 0,.int .u64 0,.slice none 0 0] 55;rw[e7]at g3;have G2:=zqH g3;have qN:=N1.out.po_alloc #[.slice none 0 0,.int .u64 0,.slice none 0 0] 55;rw[e7]at qN;have N2:=zqH qN;have qZ:=Z1.out.po_alloc #[.slice none 0 0,.int .u64 0,.slice none 0 0] 55;rw[e7]at qZ;have Z2:=zqH qZ;clear e9 e7 g3 qN qZ;have g5:=G2.out.k (i:=1) rfl;refine hK _ _ (fun _=>g5) (fun hcl2=>?_);clear a2 hK K;(try simp only[Act.put,zqP]);replace a2:=hcl2;clear hcl2;refine oneK 4 rfl (by kernel_rfl) a2 (by rfl) (fun K hK=>?_);go_simp;refine(kn25 G2.out.sf N2.out.lq Z2.out.lq).mono ?_
      rintro e wd ⟨RD,mD,dD,rfl,F4,a1,st,hd⟩;have G3:=zqH (G2.out.step st a1);have N3:=zqH (N2.out.po_step st);have D3:=zqH (hd.po_hold G2.out);have i4:=G3.out.k (i:=1) rfl;clear a1 st hd;refine hK _ _ (fun _=>i4) (fun hcl2=>?_);clear a2 hK K;(try simp only[Act.put,zqP]);replace a2:=hcl2;clear hcl2;obtain⟨g0,z0,g1,z1,g2,z2,hh,d0⟩:=put3 (G3.out.k (i:=0) rfl) (.slice RZ mZ dZ) (.int .u64 0) (.slice RD mD dD);refine oneK 6 rfl (by kernel_rfl) a2 (by rfl) (fun K hK=>?_);go_simp;refine hK _ _ (fun h=>absurd rfl h) (fun _=>?_);clear a2 hK K;(try simp only[Act.put,zqP]);refine doneK (by kernel_rfl) ?_ _;go_wp2;go_meet;exact⟨_,RZ,mZ,dZ,RD,mD,dD,rfl,zqH ⟨F4,G3.out.set (i:=0) rfl d0 hh,N3.out.po_set (i:=0) rfl d0,D3.out.po_set (i:=0) rfl d0⟩⟩
  ·
    go_simp
    obtain⟨wa,e9⟩:=zE ((W4.alloc (.cells #[.slice none 0 0,.int .u64 0,.slice none 0 0] 55)).drew);rw[<-e9];have e7:W4.drew.alloc (.cells #[.slice none 0 0,.int .u64 0,.slice none 0 0] 55)=wa:=(by rw[e9];rfl);have g3:=G0.out.alloc #[.slice none 0 0,.int .u64 0,.slice none 0 0] 55;rw[e7]at g3
    change LG _ _ _ _ _ ((W4.heap.size,_,_) :: _) _ at g3
    have G1:=zqH g3;have qN:=N0.out.po_alloc #[.slice none 0 0,.int .u64 0,.slice none 0 0] 55;rw[e7]at qN
    change LN (PO _ _ ((W4.heap.size,_,_) :: _)) _ _ _ _ _ at qN
    have N1:=zqH qN;clear e9 e7 g3 qN;have k4:=G1.out.k (i:=1) rfl;refine hK _ _ (fun _=>k4) (fun hcl2=>?_);clear a2 hK K;(try simp only[Act.put,zqP]);replace a2:=hcl2;clear hcl2;refine oneK 2 rfl (by kernel_rfl) a2 (by rfl) (fun K hK=>?_);go_simp;refine(of_c 1 (by decide)).mono ?_
    rintro e wz ⟨RZ,mZ,dZ,rfl,hz,hn⟩;have G2:=zqH (G1.out.nw hn);have N2:=zqH (N1.out.po_new hn);have Z2:=zqH (hz.po_of G1.out);have g5:=G2.out.k (i:=1) rfl;clear hz hn;refine hK _ _ (fun _=>g5) (fun hcl2=>?_);clear a2 hK K;(try simp only[Act.put,zqP]);replace a2:=hcl2;clear hcl2;refine takeK 3 [3] rfl (by kernel_rfl) (by kernel_rfl) (by kernel_rfl) (by kernel_rfl) a2 (fun _ _ _ h=>h) (v:=.agg #[.slice RZ mZ dZ,.int .u64 0,.slice none 0 0]) (Or.inl ⟨by rfl,?_⟩) g5 (fun hcl2=>?_)
    · intro w' _;go_simp
    simp only[Act.put,zqP];replace a2:=hcl2;clear hcl2;refine oneK 4 rfl (by kernel_rfl) a2 (by rfl) (fun K hK=>?_);go_simp;refine(kn25 G2.out.sf N2.out.lq Z2.out.lq).mono ?_
    rintro e wd ⟨RD,mD,dD,rfl,F4,a1,st,hd⟩;have G3:=zqH (G2.out.step st a1);have N3:=zqH (N2.out.po_step st);have D3:=zqH (hd.po_hold G2.out);have i4:=G3.out.k (i:=1) rfl;clear a1 st hd;refine hK _ _ (fun _=>i4) (fun hcl2=>?_);clear a2 hK K;(try simp only[Act.put,zqP]);replace a2:=hcl2;clear hcl2;obtain⟨g0,z0,g1,z1,g2,z2,hh,d0⟩:=put3 (G3.out.k (i:=0) rfl) (.slice RZ mZ dZ) (.int .u64 0) (.slice RD mD dD);refine oneK 6 rfl (by kernel_rfl) a2 (by rfl) (fun K hK=>?_);go_simp;refine hK _ _ (fun h=>absurd rfl h) (fun _=>?_);clear a2 hK K;(try simp only[Act.put,zqP]);refine doneK (by kernel_rfl) ?_ _;go_wp2;go_meet;exact⟨_,RZ,mZ,dZ,RD,mD,dD,rfl,zqH ⟨F4,G3.out.set (i:=0) rfl d0 hh,N3.out.po_set (i:=0) rfl d0,D3.out.po_set (i:=0) rfl d0⟩⟩
 case rest=>
  obtain⟨g,RZ,mZ,dZ,RD,mD,dD,rfl,o5⟩:=hcut;obtain⟨W5,r1⟩:=zE wc;subst r1;obtain⟨F5,hg,r3,o6⟩:=o5.out;clear HG N2 o5;have HG:=zqH hg;have ND:=zqH o6;clear hg r3 o6
  go_upto_region 7 with(go_at_call 24;refine(of_c 10 (by decide)).mono ?_;rintro e w6 ⟨R6,m6,d6,rfl,hr,hn⟩;have k7:=(HG.out.nw hn).k (i:=1) rfl;have x7:=zaa k7 7 _ rfl;have z7:=zad k7 7;have HR:=zqH (zN hr hn);clear hr hn k7)
  obtain⟨W6,k9⟩:∃W,W=w6.setCell ⟨b2,7,none⟩ (.slice R6 m6 d6):=⟨_,rfl⟩
  rw[<-k9];have hu:Upd (fun b=>b=b2) w6 W6:=by rw[k9];exact Upd.setCell _ _ rfl
  have k:=zac ((HG.out.nw HR.out.2).k (i:=1) rfl) (.slice R6 m6 d6) (i:=7);simp only[List.setIfInBounds_toArray,List.set_cons_succ,List.set_cons_zero]at k;rw[<-k9]at k;have NX:Hid (LN (PO F5 bs [(g,55,#[.slice RZ mZ dZ,.int .u64 0,.slice RD mD dD]),(b2,28,#[.int .u64 0,.int .u64 4,.slice R m d,.bool false,.int .u64 0,.bool false,.int .u64 1,.slice R6 m6 d6,.slice none 0 0,.slice none 0 0])]) W6 R6 m6 d6 (10*10 ^ 36)):=zqH ((HR.out.1.po_of HG.out).po_set (i:=1) rfl hu);replace ND:Hid (LN (PO F5 bs [(g,55,#[.slice RZ mZ dZ,.int .u64 0,.slice RD mD dD]),(b2,28,#[.int .u64 0,.int .u64 4,.slice R m d,.bool false,.int .u64 0,.bool false,.int .u64 1,.slice R6 m6 d6,.slice none 0 0,.slice none 0 0])]) W6 RD mD dD (1*10 ^ 36)):=zqH ((ND.out.po_new HR.out.2).po_set (i:=1) rfl hu);replace HG:Hid (LG w1 F F5 bs (F1.ents s2) [(g,55,#[.slice RZ mZ dZ,.int .u64 0,.slice RD mD dD]),(b2,28,#[.int .u64 0,.int .u64 4,.slice R m d,.bool false,.int .u64 0,.bool false,.int .u64 1,.slice R6 m6 d6,.slice none 0 0,.slice none 0 0])] W6):=zqH ((HG.out.nw HR.out.2).set (i:=1) rfl hu k);clear hu k x7 z7 HR k9;have k1:=HG.out.k (i:=1) rfl;have HC:=zqH (kn27a (R:=R) (m:=m) (d:=d) HG.out.sf NX.out.lq)
  go_upto_region 8 with(first
   | (refine wpList_load_row rfl 28 (.tmp 2) rfl b2 rfl 28 _ (0,0) _ k1 Tryz.underlying28 rfl (by kernel_rfl) ?_)
   | (go_at_call 27
      refine HC.out.mono ?_
      rintro e w7 ⟨rfl,F7,a1,st⟩;have hg:=HG.out.step st a1;have hg:=hg.alloc #[.slice none 0 0] 26;have k2:=hg.k (i:=2) rfl;have HH:=zqH (zN st hg);clear a1 st hg HC k1)
   | (refine wpList_store_row rfl 28 (.tmp 2) (.tmp 31) rfl b2 #[.int .u64 0,.int .u64 4,.slice R m d,.bool false,.int .u64 0,.bool false,.int .u64 2,.slice none 0 0,.slice none 0 0,.slice none 0 0] rfl rfl 28 _ k2 (by kernel_rfl) rfl (by simp[Value.oneCell']) ?_)
   | (have k3:=(HH.out.2.set (i:=2) (cs':=#[.int .u64 0,.int .u64 4,.slice R m d,.bool false,.int .u64 0,.bool false,.int .u64 2,.slice none 0 0,.slice none 0 0,.slice none 0 0]) rfl (Upd.setRow _ _ rfl) (setRow_heap _ b2 _ #[.int .u64 0,.int .u64 4,.slice R m d,.bool false,.int .u64 0,.bool false,.int .u64 2,.slice none 0 0,.slice none 0 0,.slice none 0 0] 28 _ k2)).k (i:=0) rfl;refine wpList_store_row rfl 26 (.tmp 4) (.tmp 32) rfl w7.heap.size #[.slice none 0 0] rfl rfl 26 _ k3 (by kernel_rfl) rfl (by simp[Value.oneCell']) ?_))
  obtain⟨W7,l6⟩:∃W,W=((w7.alloc (.cells #[.slice none 0 0] 26)).setRow b2 #[.int .u64 0,.int .u64 4,.slice R m d,.bool false,.int .u64 0,.bool false,.int .u64 2,.slice none 0 0,.slice none 0 0,.slice none 0 0]).setRow w7.heap.size #[.slice none 0 0]:=⟨_,rfl⟩
  rw[<-l6];have hg:=HH.out.2;have hk:=setRow_heap _ b2 _ #[.int .u64 0,.int .u64 4,.slice R m d,.bool false,.int .u64 0,.bool false,.int .u64 2,.slice none 0 0,.slice none 0 0,.slice none 0 0] 28 _ (hg.k (i:=2) rfl);have hu:Upd (fun b=>b=b2) (w7.alloc (.cells #[.slice none 0 0] 26)) ((w7.alloc (.cells #[.slice none 0 0] 26)).setRow b2 #[.int .u64 0,.int .u64 4,.slice R m d,.bool false,.int .u64 0,.bool false,.int .u64 2,.slice none 0 0,.slice none 0 0,.slice none 0 0]):=Upd.setRow _ _ rfl;have e5:=hg.set (i:=2) rfl hu hk;have o1:=setRow_heap _ w7.heap.size _ #[.slice none 0 0] 26 _ (e5.k (i:=0) rfl);have k5:Upd (fun b=>b=w7.heap.size) ((w7.alloc (.cells #[.slice none 0 0] 26)).setRow b2 #[.int .u64 0,.int .u64 4,.slice R m d,.bool false,.int .u64 0,.bool false,.int .u64 2,.slice none 0 0,.slice none 0 0,.slice none 0 0]) (((w7.alloc (.cells #[.slice none 0 0] 26)).setRow b2 #[.int .u64 0,.int .u64 4,.slice R m d,.bool false,.int .u64 0,.bool false,.int .u64 2,.slice none 0 0,.slice none 0 0,.slice none 0 0]).setRow w7.heap.size #[.slice none 0 0]):=Upd.setRow _ _ rfl;have l5:=e5.set (i:=0) rfl k5 o1;rw[<-l6]at l5 k5;clear NX;replace ND:Hid (LN (PO F7 bs [(w7.heap.size,26,#[.slice none 0 0]),(g,55,#[.slice RZ mZ dZ,.int .u64 0,.slice RD mD dD]),(b2,28,#[.int .u64 0,.int .u64 4,.slice R m d,.bool false,.int .u64 0,.bool false,.int .u64 2,.slice none 0 0,.slice none 0 0,.slice none 0 0])]) W7 RD mD dD (1*10 ^ 36)):=zqH ((((ND.out.po_step HH.out.1).po_alloc #[.slice none 0 0] 26).po_set (cs':=#[.int .u64 0,.int .u64 4,.slice R m d,.bool false,.int .u64 0,.bool false,.int .u64 2,.slice none 0 0,.slice none 0 0,.slice none 0 0]) (i:=2) rfl hu).po_set (cs':=#[.slice none 0 0]) (i:=0) rfl k5);replace HG:Hid (LG w1 F F7 bs (F1.ents s3) [(w7.heap.size,26,#[.slice none 0 0]),(g,55,#[.slice RZ mZ dZ,.int .u64 0,.slice RD mD dD]),(b2,28,#[.int .u64 0,.int .u64 4,.slice R m d,.bool false,.int .u64 0,.bool false,.int .u64 2,.slice none 0 0,.slice none 0 0,.slice none 0 0])] W7):=zqH l5;clear k2 hg hk hu e5 o1 k5 l5 HH l6;have k1:=HG.out.k (i:=2) rfl;have k2:=HG.out.k (i:=1) rfl;have HC:=zqH (kn19a (R:=R) (m:=m) (d:=d) (R':=RZ) (m':=mZ) (d':=dZ) HG.out.sf ND.out.po_off.lq)
  go_upto_region 9 with(first
   | (refine wpList_load_row rfl 28 (.tmp 2) rfl b2 rfl 28 _ (0,0) _ k1 Tryz.underlying28 rfl (by kernel_rfl) ?_)
   | (refine wpList_load_row rfl 55 (.tmp 3) rfl g rfl 55 _ (0,0) _ k2 Tryz.underlying55 rfl (by kernel_rfl) ?_)
   | (go_at_call 19
      refine HC.out.mono ?_
      rintro e w8 ⟨R8,m8,d8,rfl,a1,hu,hr⟩;have HH:=zqH (zN a1 (zN hu hr));clear a1 hu hr HC k1 k2))
  obtain⟨W8,j0⟩:∃W,W=w8.alloc (.cells #[.slice R8 m8 d8] 26):=⟨_,rfl⟩
  rw[<-j0];have hg:=(HG.out.bsd HH.out.2.1 HH.out.1).alloc #[.slice R8 m8 d8] 26;rw[<-j0]at hg;have q:=(ND.out.po_bs HH.out.2.1).po_alloc #[.slice R8 m8 d8] 26;rw[<-j0]at q;replace ND:Hid (LN (PO F7 bs [(w8.heap.size,26,#[.slice R8 m8 d8]),(w7.heap.size,26,#[.slice none 0 0]),(g,55,#[.slice RZ mZ dZ,.int .u64 0,.slice RD mD dD]),(b2,28,#[.int .u64 0,.int .u64 4,.slice R m d,.bool false,.int .u64 0,.bool false,.int .u64 2,.slice none 0 0,.slice none 0 0,.slice none 0 0])]) W8 RD mD dD (1*10 ^ 36)):=zqH q;clear q;have q:=(HH.out.2.2.po_of HG.out).po_alloc #[.slice R8 m8 d8] 26;rw[<-j0]at q;have NA:Hid (LN (PO F7 bs [(w8.heap.size,26,#[.slice R8 m8 d8]),(w7.heap.size,26,#[.slice none 0 0]),(g,55,#[.slice RZ mZ dZ,.int .u64 0,.slice RD mD dD]),(b2,28,#[.int .u64 0,.int .u64 4,.slice R m d,.bool false,.int .u64 0,.bool false,.int .u64 2,.slice none 0 0,.slice none 0 0,.slice none 0 0])]) W8 R8 m8 d8 2500000000000000000000000000000000000):=zqH q;clear q;replace HG:Hid (LG w1 F F7 bs (F1.ents s3) [(w8.heap.size,26,#[.slice R8 m8 d8]),(w7.heap.size,26,#[.slice none 0 0]),(g,55,#[.slice RZ mZ dZ,.int .u64 0,.slice RD mD dD]),(b2,28,#[.int .u64 0,.int .u64 4,.slice R m d,.bool false,.int .u64 0,.bool false,.int .u64 2,.slice none 0 0,.slice none 0 0,.slice none 0 0])] W8):=zqH hg;clear hg HH j0;have i6:=m3.out.new (HG.out.new HW.out.2.2 HW.out.1 HW.out.2.1);have i7:Hid (Calls Tryz.prog 44 #[.agg #[.slice RD mD dD]] W8 fun e w'=>e=.returned (.string ⟨#[49]⟩)/\New W8 w'):=zqH (by
   have h:=text_whole (k:=1) ND.out.lq rfl (by decide) i6
   rwa [show Lib.decDigits 1=[49] from by decide +kernel]at h)
  have o2:=zqH (fun V (hn:New W8 V)=>text_half (NA.out.lq.new hn) rfl (i6.new hn));have g6:=zqH (fun(W:World) (hn:New W8 W)=>(⟨zaa ((HG.out.nw hn).k (i:=3) rfl) 6 _ rfl,zaa ((HG.out.nw hn).k (i:=2) rfl) 1 _ rfl,zaa ((HG.out.nw hn).k (i:=2) rfl) 2 _ rfl,zaa ((HG.out.nw hn).k (i:=1) rfl) 0 _ rfl,zaa ((HG.out.nw hn).k (i:=0) rfl) 0 _ rfl⟩:W.cell? ⟨b2,6,none⟩=some (.int .u64 2)/\W.cell? ⟨g,1,none⟩=some (.int .u64 0)/\W.cell? ⟨g,2,none⟩=some (.slice RD mD dD)/\W.cell? ⟨w7.heap.size,0,none⟩=some (.slice none 0 0)/\W.cell? ⟨w8.heap.size,0,none⟩=some (.slice R8 m8 d8)));obtain⟨c0,c1,c2,c3,c4⟩:=g6.out _ (Upd.refl _ _)
  go_upto_region 11 with(first
   | (go_at_call_of 44 (Value.agg #[Value.slice RD mD dD])
      refine i7.out.mono ?_
      rintro e wa ⟨rfl,g8⟩;obtain⟨e0,e1,e2,e3,e4⟩:=g6.out _ g8;have g7:=zqH g8;clear g8 i7 c0 c1 c2 c3 c4)
   | (go_at_call 26
      refine(dzero_c (w:=wa) (LN.nil (fun _=>True) wa).lq).mono ?_
      rintro e wb ⟨rfl,g9⟩;rw[decide_eq_true rfl];obtain⟨f0,f1,f2,f3,f4⟩:=g6.out _ (g7.out.trans g9);have i9:=zqH (g7.out.trans g9);clear g9 e0 e1 e2 e3 e4)
   | (go_at_call 44
      refine(o2.out _ i9.out).mono ?_
      rintro e wc ⟨rfl,p8⟩;have k6:=zqH (i9.out.trans p8);clear p8 o2 f0 f1 f2 f3 f4))
  replace ND:Hid (LN (PO F7 bs [(w8.heap.size,26,#[.slice R8 m8 d8]),(w7.heap.size,26,#[.slice none 0 0]),(g,55,#[.slice RZ mZ dZ,.int .u64 0,.slice RD mD dD]),(b2,28,#[.int .u64 0,.int .u64 4,.slice R m d,.bool false,.int .u64 0,.bool false,.int .u64 2,.slice none 0 0,.slice none 0 0,.slice none 0 0])]) wc RD mD dD (1*10 ^ 36)):=zqH (ND.out.po_new k6.out);replace NA:Hid (LN (PO F7 bs [(w8.heap.size,26,#[.slice R8 m8 d8]),(w7.heap.size,26,#[.slice none 0 0]),(g,55,#[.slice RZ mZ dZ,.int .u64 0,.slice RD mD dD]),(b2,28,#[.int .u64 0,.int .u64 4,.slice R m d,.bool false,.int .u64 0,.bool false,.int .u64 2,.slice none 0 0,.slice none 0 0,.slice none 0 0])]) wc R8 m8 d8 2500000000000000000000000000000000000):=zqH (NA.out.po_new k6.out);replace HG:Hid (LG w1 F F7 bs (F1.ents s3) [(w8.heap.size,26,#[.slice R8 m8 d8]),(w7.heap.size,26,#[.slice none 0 0]),(g,55,#[.slice RZ mZ dZ,.int .u64 0,.slice RD mD dD]),(b2,28,#[.int .u64 0,.int .u64 4,.slice R m d,.bool false,.int .u64 0,.bool false,.int .u64 2,.slice none 0 0,.slice none 0 0,.slice none 0 0])] wc):=zqH (HG.out.nw k6.out);clear g6 i6 g7 i9 k6;clear NA;have k1:=HG.out.k (i:=3) rfl;have HC:=zqH (kn27b (R:=R) (m:=m) (d:=d) HG.out.sf)
  go_upto_region 12 with(first
   | (refine wpList_load_row rfl 28 (.tmp 2) rfl b2 rfl 28 _ (0,0) _ k1 Tryz.underlying28 rfl (by kernel_rfl) ?_)
   | (go_at_call 27
      refine HC.out.mono ?_
      rintro e w11 ⟨rfl,p9,a1,st⟩;have hg:=HG.out.step st a1;have k2:=hg.k (i:=3) rfl;have HH:=zqH (zN st hg);clear a1 st hg HC k1)
   | (refine wpList_store_row rfl 28 (.tmp 2) (.tmp 72) rfl b2 #[.int .u64 0,.int .u64 4,.slice R m d,.bool false,.int .u64 0,.bool false,.int .u64 3,.slice none 0 0,.slice none 0 0,.slice none 0 0] rfl rfl 28 _ k2 (by kernel_rfl) rfl (by simp[Value.oneCell']) ?_))
  obtain⟨o7,j1⟩:∃W,W=w11.setRow b2 #[.int .u64 0,.int .u64 4,.slice R m d,.bool false,.int .u64 0,.bool false,.int .u64 3,.slice none 0 0,.slice none 0 0,.slice none 0 0]:=⟨_,rfl⟩
  rw[<-j1];have hg:=HH.out.2;have hk:=setRow_heap _ b2 _ #[.int .u64 0,.int .u64 4,.slice R m d,.bool false,.int .u64 0,.bool false,.int .u64 3,.slice none 0 0,.slice none 0 0,.slice none 0 0] 28 _ (hg.k (i:=3) rfl);have hu:Upd (fun b=>b=b2) w11 (w11.setRow b2 #[.int .u64 0,.int .u64 4,.slice R m d,.bool false,.int .u64 0,.bool false,.int .u64 3,.slice none 0 0,.slice none 0 0,.slice none 0 0]):=Upd.setRow _ _ rfl;have e5:=hg.set (i:=3) rfl hu hk;rw[<-j1]at e5 hu;replace ND:Hid (LN (PO p9 bs [(w8.heap.size,26,#[.slice R8 m8 d8]),(w7.heap.size,26,#[.slice none 0 0]),(g,55,#[.slice RZ mZ dZ,.int .u64 0,.slice RD mD dD]),(b2,28,#[.int .u64 0,.int .u64 4,.slice R m d,.bool false,.int .u64 0,.bool false,.int .u64 3,.slice none 0 0,.slice none 0 0,.slice none 0 0])]) o7 RD mD dD (1*10 ^ 36)):=zqH ((ND.out.po_step HH.out.1).po_set (cs':=#[.int .u64 0,.int .u64 4,.slice R m d,.bool false,.int .u64 0,.bool false,.int .u64 3,.slice none 0 0,.slice none 0 0,.slice none 0 0]) (i:=3) rfl hu);replace HG:Hid (LG w1 F p9 bs (F1.ents s4) [(w8.heap.size,26,#[.slice R8 m8 d8]),(w7.heap.size,26,#[.slice none 0 0]),(g,55,#[.slice RZ mZ dZ,.int .u64 0,.slice RD mD dD]),(b2,28,#[.int .u64 0,.int .u64 4,.slice R m d,.bool false,.int .u64 0,.bool false,.int .u64 3,.slice none 0 0,.slice none 0 0,.slice none 0 0])] o7):=zqH e5;clear k2 hg hk hu e5  HH j1;have k1:=HG.out.k (i:=3) rfl;have HC:=zqH (kn43 (R:=R) (m:=m) (d:=d) HG.out.sf)
  go_upto_region 13 with(first
   | (refine wpList_load_row rfl 28 (.tmp 2) rfl b2 rfl 28 _ (0,0) _ k1 Tryz.underlying28 rfl (by kernel_rfl) ?_)
   | (go_at_call 43
      refine HC.out.mono ?_
      rintro e w12 ⟨rfl,j6,a1,st⟩;have hg:=HG.out.step st a1;have k2:=hg.k (i:=3) rfl;have HH:=zqH (zN st hg);clear a1 st hg HC k1)
   | (refine wpList_store_row rfl 28 (.tmp 2) (.tmp 76) rfl b2 #[.int .u64 0,.int .u64 2,.slice R m d,.bool false,.int .u64 0,.bool false,.int .u64 3,.slice none 0 0,.slice none 0 0,.slice none 0 0] rfl rfl 28 _ k2 (by kernel_rfl) rfl (by simp[Value.oneCell']) ?_))
  obtain⟨o8,j3⟩:∃W,W=w12.setRow b2 #[.int .u64 0,.int .u64 2,.slice R m d,.bool false,.int .u64 0,.bool false,.int .u64 3,.slice none 0 0,.slice none 0 0,.slice none 0 0]:=⟨_,rfl⟩
  rw[<-j3];have hg:=HH.out.2;have hk:=setRow_heap _ b2 _ #[.int .u64 0,.int .u64 2,.slice R m d,.bool false,.int .u64 0,.bool false,.int .u64 3,.slice none 0 0,.slice none 0 0,.slice none 0 0] 28 _ (hg.k (i:=3) rfl);have hu:Upd (fun b=>b=b2) w12 (w12.setRow b2 #[.int .u64 0,.int .u64 2,.slice R m d,.bool false,.int .u64 0,.bool false,.int .u64 3,.slice none 0 0,.slice none 0 0,.slice none 0 0]):=Upd.setRow _ _ rfl;have e5:=hg.set (i:=3) rfl hu hk;rw[<-j3]at e5 hu;replace ND:Hid (LN (PO j6 bs [(w8.heap.size,26,#[.slice R8 m8 d8]),(w7.heap.size,26,#[.slice none 0 0]),(g,55,#[.slice RZ mZ dZ,.int .u64 0,.slice RD mD dD]),(b2,28,#[.int .u64 0,.int .u64 2,.slice R m d,.bool false,.int .u64 0,.bool false,.int .u64 3,.slice none 0 0,.slice none 0 0,.slice none 0 0])]) o8 RD mD dD (1*10 ^ 36)):=zqH ((ND.out.po_step HH.out.1).po_set (cs':=#[.int .u64 0,.int .u64 2,.slice R m d,.bool false,.int .u64 0,.bool false,.int .u64 3,.slice none 0 0,.slice none 0 0,.slice none 0 0]) (i:=3) rfl hu);replace HG:Hid (LG w1 F j6 bs (F1.ents s5) [(w8.heap.size,26,#[.slice R8 m8 d8]),(w7.heap.size,26,#[.slice none 0 0]),(g,55,#[.slice RZ mZ dZ,.int .u64 0,.slice RD mD dD]),(b2,28,#[.int .u64 0,.int .u64 2,.slice R m d,.bool false,.int .u64 0,.bool false,.int .u64 3,.slice none 0 0,.slice none 0 0,.slice none 0 0])] o8):=zqH e5;clear k2 hg hk hu e5  HH j3
  go_upto_region 14 with(go_at_call 24;refine(of_c 10 (by decide)).mono ?_;rintro e w13 ⟨h0,h7,h8,rfl,hr,hn⟩;have k7:=(HG.out.nw hn).k (i:=3) rfl;have x7:=zaa k7 7 _ rfl;have z7:=zad k7 7;have HR:=zqH (zN hr hn);clear hr hn k7)
  obtain⟨l0,f9⟩:∃W,W=w13.setCell ⟨b2,7,none⟩ (.slice h0 h7 h8):=⟨_,rfl⟩
  rw[<-f9];have hu:Upd (fun b=>b=b2) w13 l0:=by rw[f9];exact Upd.setCell _ _ rfl
  have k:=zac ((HG.out.nw HR.out.2).k (i:=3) rfl) (.slice h0 h7 h8) (i:=7);simp only[List.setIfInBounds_toArray,List.set_cons_succ,List.set_cons_zero]at k;rw[<-f9]at k;have NX:Hid (LN (PO j6 bs [(w8.heap.size,26,#[.slice R8 m8 d8]),(w7.heap.size,26,#[.slice none 0 0]),(g,55,#[.slice RZ mZ dZ,.int .u64 0,.slice RD mD dD]),(b2,28,#[.int .u64 0,.int .u64 2,.slice R m d,.bool false,.int .u64 0,.bool false,.int .u64 3,.slice h0 h7 h8,.slice none 0 0,.slice none 0 0])]) l0 h0 h7 h8 (10*10 ^ 36)):=zqH ((HR.out.1.po_of HG.out).po_set (i:=3) rfl hu);replace ND:Hid (LN (PO j6 bs [(w8.heap.size,26,#[.slice R8 m8 d8]),(w7.heap.size,26,#[.slice none 0 0]),(g,55,#[.slice RZ mZ dZ,.int .u64 0,.slice RD mD dD]),(b2,28,#[.int .u64 0,.int .u64 2,.slice R m d,.bool false,.int .u64 0,.bool false,.int .u64 3,.slice h0 h7 h8,.slice none 0 0,.slice none 0 0])]) l0 RD mD dD (1*10 ^ 36)):=zqH ((ND.out.po_new HR.out.2).po_set (i:=3) rfl hu);replace HG:Hid (LG w1 F j6 bs (F1.ents s5) [(w8.heap.size,26,#[.slice R8 m8 d8]),(w7.heap.size,26,#[.slice none 0 0]),(g,55,#[.slice RZ mZ dZ,.int .u64 0,.slice RD mD dD]),(b2,28,#[.int .u64 0,.int .u64 2,.slice R m d,.bool false,.int .u64 0,.bool false,.int .u64 3,.slice h0 h7 h8,.slice none 0 0,.slice none 0 0])] l0):=zqH ((HG.out.nw HR.out.2).set (i:=3) rfl hu k);clear hu k x7 z7 HR f9;have k1:=HG.out.k (i:=3) rfl;have HC:=zqH (kn27c (R:=R) (m:=m) (d:=d) HG.out.sf NX.out.lq)
  go_upto_region 15 with(first
   | (refine wpList_load_row rfl 28 (.tmp 2) rfl b2 rfl 28 _ (0,0) _ k1 Tryz.underlying28 rfl (by kernel_rfl) ?_)
   | (go_at_call 27
      refine HC.out.mono ?_
      rintro e w14 ⟨rfl,f6,a1,st⟩;have hg:=HG.out.step st a1;have k2:=hg.k (i:=3) rfl;have HH:=zqH (zN st hg);clear a1 st hg HC k1)
   | (refine wpList_store_row rfl 28 (.tmp 2) (.tmp 83) rfl b2 #[.int .u64 0,.int .u64 2,.slice R m d,.bool false,.int .u64 0,.bool false,.int .u64 4,.slice none 0 0,.slice none 0 0,.slice none 0 0] rfl rfl 28 _ k2 (by kernel_rfl) rfl (by simp[Value.oneCell']) ?_))
  obtain⟨o9,j4⟩:∃W,W=w14.setRow b2 #[.int .u64 0,.int .u64 2,.slice R m d,.bool false,.int .u64 0,.bool false,.int .u64 4,.slice none 0 0,.slice none 0 0,.slice none 0 0]:=⟨_,rfl⟩
  rw[<-j4];have hg:=HH.out.2;have hk:=setRow_heap _ b2 _ #[.int .u64 0,.int .u64 2,.slice R m d,.bool false,.int .u64 0,.bool false,.int .u64 4,.slice none 0 0,.slice none 0 0,.slice none 0 0] 28 _ (hg.k (i:=3) rfl);have hu:Upd (fun b=>b=b2) w14 (w14.setRow b2 #[.int .u64 0,.int .u64 2,.slice R m d,.bool false,.int .u64 0,.bool false,.int .u64 4,.slice none 0 0,.slice none 0 0,.slice none 0 0]):=Upd.setRow _ _ rfl;have e5:=hg.set (i:=3) rfl hu hk;rw[<-j4]at e5 hu;clear NX;replace ND:Hid (LN (PO f6 bs [(w8.heap.size,26,#[.slice R8 m8 d8]),(w7.heap.size,26,#[.slice none 0 0]),(g,55,#[.slice RZ mZ dZ,.int .u64 0,.slice RD mD dD]),(b2,28,#[.int .u64 0,.int .u64 2,.slice R m d,.bool false,.int .u64 0,.bool false,.int .u64 4,.slice none 0 0,.slice none 0 0,.slice none 0 0])]) o9 RD mD dD (1*10 ^ 36)):=zqH ((ND.out.po_step HH.out.1).po_set (cs':=#[.int .u64 0,.int .u64 2,.slice R m d,.bool false,.int .u64 0,.bool false,.int .u64 4,.slice none 0 0,.slice none 0 0,.slice none 0 0]) (i:=3) rfl hu);replace HG:Hid (LG w1 F f6 bs (F1.ents s6) [(w8.heap.size,26,#[.slice R8 m8 d8]),(w7.heap.size,26,#[.slice none 0 0]),(g,55,#[.slice RZ mZ dZ,.int .u64 0,.slice RD mD dD]),(b2,28,#[.int .u64 0,.int .u64 2,.slice R m d,.bool false,.int .u64 0,.bool false,.int .u64 4,.slice none 0 0,.slice none 0 0,.slice none 0 0])] o9):=zqH e5;clear k2 hg hk hu e5  HH j4;have k1:=HG.out.k (i:=3) rfl;have k2:=HG.out.k (i:=2) rfl;have HC:=zqH (kn19b (R:=R) (m:=m) (d:=d) (R':=RZ) (m':=mZ) (d':=dZ) HG.out.sf ND.out.po_off.lq)
  go_upto_region 16 with(first
   | (refine wpList_load_row rfl 28 (.tmp 2) rfl b2 rfl 28 _ (0,0) _ k1 Tryz.underlying28 rfl (by kernel_rfl) ?_)
   | (refine wpList_load_row rfl 55 (.tmp 3) rfl g rfl 55 _ (0,0) _ k2 Tryz.underlying55 rfl (by kernel_rfl) ?_)
   | (go_at_call 19
      refine HC.out.mono ?_
      rintro e w15 ⟨b5,b6,b7,rfl,a1,hu,hr⟩;have HH:=zqH (zN a1 (zN hu hr));clear a1 hu hr HC k1 k2))
  obtain⟨j5,f7⟩:∃W,W=w15.alloc (.cells #[.slice b5 b6 b7] 26):=⟨_,rfl⟩
  rw[<-f7];have hg:=(HG.out.bsd HH.out.2.1 HH.out.1).alloc #[.slice b5 b6 b7] 26;rw[<-f7]at hg;have q:=(ND.out.po_bs HH.out.2.1).po_alloc #[.slice b5 b6 b7] 26;rw[<-f7]at q;replace ND:Hid (LN (PO f6 bs [(w15.heap.size,26,#[.slice b5 b6 b7]),(w8.heap.size,26,#[.slice R8 m8 d8]),(w7.heap.size,26,#[.slice none 0 0]),(g,55,#[.slice RZ mZ dZ,.int .u64 0,.slice RD mD dD]),(b2,28,#[.int .u64 0,.int .u64 2,.slice R m d,.bool false,.int .u64 0,.bool false,.int .u64 4,.slice none 0 0,.slice none 0 0,.slice none 0 0])]) j5 RD mD dD (1*10 ^ 36)):=zqH q;clear q;have q:=(HH.out.2.2.po_of HG.out).po_alloc #[.slice b5 b6 b7] 26;rw[<-f7]at q;have NB:Hid (LN (PO f6 bs [(w15.heap.size,26,#[.slice b5 b6 b7]),(w8.heap.size,26,#[.slice R8 m8 d8]),(w7.heap.size,26,#[.slice none 0 0]),(g,55,#[.slice RZ mZ dZ,.int .u64 0,.slice RD mD dD]),(b2,28,#[.int .u64 0,.int .u64 2,.slice R m d,.bool false,.int .u64 0,.bool false,.int .u64 4,.slice none 0 0,.slice none 0 0,.slice none 0 0])]) j5 b5 b6 b7 5000000000000000000000000000000000000):=zqH q;clear q;replace HG:Hid (LG w1 F f6 bs (F1.ents s6) [(w15.heap.size,26,#[.slice b5 b6 b7]),(w8.heap.size,26,#[.slice R8 m8 d8]),(w7.heap.size,26,#[.slice none 0 0]),(g,55,#[.slice RZ mZ dZ,.int .u64 0,.slice RD mD dD]),(b2,28,#[.int .u64 0,.int .u64 2,.slice R m d,.bool false,.int .u64 0,.bool false,.int .u64 4,.slice none 0 0,.slice none 0 0,.slice none 0 0])] j5):=zqH hg;clear hg HH f7;obtain⟨p0,hm⟩:=HG.out.sf.m;have HC:Hid (Calls Tryz.prog 21 #[.pointer (some ⟨bs,0,none⟩),.int .u64 16] j5 fun e w'=>e=.returned (.tuple #[.int .i64 3,.int .i64 1])/\SFm f6 bs p0 w' (F1.ents s6)/\Upd (fun b=>b=bs) j5 w'):=zqH (count_c ok6 hm);clear hm
  go_upto_region 17 with(go_at_call 21;refine HC.out.mono ?_;rintro e w16 ⟨rfl,j7,hu⟩;have HH:=zqH (zN j7 hu);clear j7 hu HC)
  replace ND:Hid (LN (PO f6 bs [(w15.heap.size,26,#[.slice b5 b6 b7]),(w8.heap.size,26,#[.slice R8 m8 d8]),(w7.heap.size,26,#[.slice none 0 0]),(g,55,#[.slice RZ mZ dZ,.int .u64 0,.slice RD mD dD]),(b2,28,#[.int .u64 0,.int .u64 2,.slice R m d,.bool false,.int .u64 0,.bool false,.int .u64 4,.slice none 0 0,.slice none 0 0,.slice none 0 0])]) w16 RD mD dD (1*10 ^ 36)):=zqH (ND.out.po_bs HH.out.2);replace NB:Hid (LN (PO f6 bs [(w15.heap.size,26,#[.slice b5 b6 b7]),(w8.heap.size,26,#[.slice R8 m8 d8]),(w7.heap.size,26,#[.slice none 0 0]),(g,55,#[.slice RZ mZ dZ,.int .u64 0,.slice RD mD dD]),(b2,28,#[.int .u64 0,.int .u64 2,.slice R m d,.bool false,.int .u64 0,.bool false,.int .u64 4,.slice none 0 0,.slice none 0 0,.slice none 0 0])]) w16 b5 b6 b7 5000000000000000000000000000000000000):=zqH (NB.out.po_bs HH.out.2);replace HG:Hid (LG w1 F f6 bs (F1.ents s6) [(w15.heap.size,26,#[.slice b5 b6 b7]),(w8.heap.size,26,#[.slice R8 m8 d8]),(w7.heap.size,26,#[.slice none 0 0]),(g,55,#[.slice RZ mZ dZ,.int .u64 0,.slice RD mD dD]),(b2,28,#[.int .u64 0,.int .u64 2,.slice R m d,.bool false,.int .u64 0,.bool false,.int .u64 4,.slice none 0 0,.slice none 0 0,.slice none 0 0])] w16):=zqH (HG.out.bsd HH.out.2 HH.out.1.sf);clear HH;have k2:=HG.out.k (i:=3) rfl;have HC:=zqH (kn42 (R':=RZ) (m':=mZ) (d':=dZ) (As:=RD) (ns:=mD) (cs:=dD) HG.out.sf)
  go_upto_region 18 with(first
   | (refine wpList_load_row rfl 55 (.tmp 3) rfl g rfl 55 _ (0,0) _ k2 Tryz.underlying55 rfl (by kernel_rfl) ?_)
   | (go_at_call 42;refine HC.out.mono ?_;rintro e w17 ⟨rfl,j8,a1,st⟩;have HH:=zqH (zN a1 st);clear a1 st HC k2))
  clear ND;replace NB:Hid (LN (PO j8 bs [(w15.heap.size,26,#[.slice b5 b6 b7]),(w8.heap.size,26,#[.slice R8 m8 d8]),(w7.heap.size,26,#[.slice none 0 0]),(g,55,#[.slice RZ mZ dZ,.int .u64 0,.slice RD mD dD]),(b2,28,#[.int .u64 0,.int .u64 2,.slice R m d,.bool false,.int .u64 0,.bool false,.int .u64 4,.slice none 0 0,.slice none 0 0,.slice none 0 0])]) w17 b5 b6 b7 5000000000000000000000000000000000000):=zqH (NB.out.po_step HH.out.2);replace HG:Hid (LG w1 F j8 bs (F1.ents s7) [(w15.heap.size,26,#[.slice b5 b6 b7]),(w8.heap.size,26,#[.slice R8 m8 d8]),(w7.heap.size,26,#[.slice none 0 0]),(g,55,#[.slice RZ mZ dZ,.int .u64 0,.slice RD mD dD]),(b2,28,#[.int .u64 0,.int .u64 2,.slice R m d,.bool false,.int .u64 0,.bool false,.int .u64 4,.slice none 0 0,.slice none 0 0,.slice none 0 0])] w17):=zqH (HG.out.step HH.out.2 HH.out.1);clear HH;obtain⟨p5,hm⟩:=HG.out.sf.m;have HC:Hid (Calls Tryz.prog 21 #[.pointer (some ⟨bs,0,none⟩),.int .u64 16] w17 fun e w'=>e=.returned (.tuple #[.int .i64 2,.int .i64 1])/\SFm j8 bs p5 w' (F1.ents s7)/\Upd (fun b=>b=bs) w17 w'):=zqH (count_c ok7 hm);clear hm
  go_upto_region 19 with(go_at_call 21;refine HC.out.mono ?_;rintro e w18 ⟨rfl,j7,hu⟩;have HH:=zqH (zN j7 hu);clear j7 hu HC)
  replace NB:Hid (LN (PO j8 bs [(w15.heap.size,26,#[.slice b5 b6 b7]),(w8.heap.size,26,#[.slice R8 m8 d8]),(w7.heap.size,26,#[.slice none 0 0]),(g,55,#[.slice RZ mZ dZ,.int .u64 0,.slice RD mD dD]),(b2,28,#[.int .u64 0,.int .u64 2,.slice R m d,.bool false,.int .u64 0,.bool false,.int .u64 4,.slice none 0 0,.slice none 0 0,.slice none 0 0])]) w18 b5 b6 b7 5000000000000000000000000000000000000):=zqH (NB.out.po_bs HH.out.2);replace HG:Hid (LG w1 F j8 bs (F1.ents s7) [(w15.heap.size,26,#[.slice b5 b6 b7]),(w8.heap.size,26,#[.slice R8 m8 d8]),(w7.heap.size,26,#[.slice none 0 0]),(g,55,#[.slice RZ mZ dZ,.int .u64 0,.slice RD mD dD]),(b2,28,#[.int .u64 0,.int .u64 2,.slice R m d,.bool false,.int .u64 0,.bool false,.int .u64 4,.slice none 0 0,.slice none 0 0,.slice none 0 0])] w18):=zqH (HG.out.bsd HH.out.2 HH.out.1.sf);clear HH;have HC:=zqH (gone_c ok7 HG.out.sf)
  go_upto_region 20 with(go_at_call 35;refine HC.out.mono ?_;rintro e w19 ⟨rfl,l8,a1,st⟩;have HH:=zqH (zN a1 st);clear a1 st HC)
  replace NB:Hid (LN (PO l8 bs [(w15.heap.size,26,#[.slice b5 b6 b7]),(w8.heap.size,26,#[.slice R8 m8 d8]),(w7.heap.size,26,#[.slice none 0 0]),(g,55,#[.slice RZ mZ dZ,.int .u64 0,.slice RD mD dD]),(b2,28,#[.int .u64 0,.int .u64 2,.slice R m d,.bool false,.int .u64 0,.bool false,.int .u64 4,.slice none 0 0,.slice none 0 0,.slice none 0 0])]) w19 b5 b6 b7 5000000000000000000000000000000000000):=zqH (NB.out.po_step HH.out.2);replace HG:Hid (LG w1 F l8 bs [] [(w15.heap.size,26,#[.slice b5 b6 b7]),(w8.heap.size,26,#[.slice R8 m8 d8]),(w7.heap.size,26,#[.slice none 0 0]),(g,55,#[.slice RZ mZ dZ,.int .u64 0,.slice RD mD dD]),(b2,28,#[.int .u64 0,.int .u64 2,.slice R m d,.bool false,.int .u64 0,.bool false,.int .u64 4,.slice none 0 0,.slice none 0 0,.slice none 0 0])] w19):=zqH (HG.out.step HH.out.2 HH.out.1);clear HH;have i6:=m3.out.new (HG.out.new HW.out.2.2 HW.out.1 HW.out.2.1);have i7:Hid (Calls Tryz.prog 44 #[.agg #[.slice b5 b6 b7]] w19 fun e w'=>e=.returned (.string ⟨#[53]⟩)/\New w19 w'):=zqH (by
   have h:=text_whole (k:=5) NB.out.lq (by decide) (by decide) i6
   rwa [show Lib.decDigits 5=[53] from by decide +kernel]at h)
  have HD:Hid (∀W,SF l8 bs W []->Calls Tryz.prog 17 #[.pointer (some ⟨bs,0,none⟩)] W fun e w'=>∃A c,e=.returned (.slice A 0 c)/\New W w'):=zqH (fun W hs=>by
   obtain⟨base,bm,D,A,n,c,vs,ps,h1,h2,h3,h4,h5,h6⟩:=hs;refine(dump_c h1 h2 (by rw[h6];decide) (by rw[h6];intro e he;cases he)).mono ?_
   rintro e w' ⟨A',n',c',cells,rfl,hn,_,_,hw,_⟩;rw[h6]at hn;obtain rfl:n'=0:=hn;exact⟨A',c',rfl,hw⟩)
  have g6:=zqH (fun(W:World) (hn:New w19 W)=>(⟨zaa ((HG.out.nw hn).k (i:=4) rfl) 1 _ rfl,zaa ((HG.out.nw hn).k (i:=0) rfl) 0 _ rfl⟩:W.cell? ⟨b2,1,none⟩=some (.int .u64 2)/\W.cell? ⟨w15.heap.size,0,none⟩=some (.slice b5 b6 b7)));obtain⟨c0,c1⟩:=g6.out _ (Upd.refl _ _)
  go_wp2_with (first
   | (go_at_call 44;refine i7.out.mono ?_;rintro e wa ⟨rfl,g8⟩;have g7:=zqH g8;clear g8 i7 c0 c1)
   | (go_at_call 17;refine(HD.out wa (HG.out.nw g7.out).sf).mono ?_;rintro e wb ⟨Ad,cd,rfl,g9⟩;have i9:=zqH (g7.out.trans g9);clear g9 HD))
  go_ret
  exact⟨rfl,(HG.out.nw i9.out).new HW.out.2.2 HW.out.1 HW.out.2.1⟩
end Gz
end
namespace F1
theorem tot_take_le {α:Type} (g:α->Nat):∀(i:Nat) (l:List α),tot g (l.take i)<=tot g l
 | 0,_=>Nat.zero_le _
 | _+1,[]=>zR _
 | i+1,a :: l=>by
   rw[List.take_succ_cons,zap,zap];exact Nat.add_le_add_left (tot_take_le g i l) _
end F1
section
open Go.Proofs.YtbhnjkegkadodaaGreatDoor
namespace Gz
open Go Go.RowKit Go.Proofs Gl
theorem bks0 (n f:Nat):F1.Bks (F1.refer ⟨[],[]⟩ 0) (rn0 n f):=by
 refine⟨⟨?_,fun x=>?_⟩,rfl⟩
 · show F1.Srt [(0,0,1)]
   exact List.pairwise_singleton _ _
 · show x ∈ [((0:Nat),(0:Nat),(1:Nat))]↔_
   have hf:(rn0 n f).f 0=1:=rfl;rw[List.mem_singleton]
   constructor
   · rintro rfl;exact⟨zR _,by rw[hf];decide,by rw[hf];rfl⟩
   · rintro⟨h1,h2,h3⟩;have h1:x.1=0:=Nat.le_zero.1 h1;rw[h1,hf]at h3;exact Prod.ext h1 h3
theorem gd0 {n:Nat} (h1:1<=n) (h2:n<=1000000):F1.Gd (rn0 n (n*10 ^ 36)):=by
 have a1:∀d ∈ (rn0 n (n*10 ^ 36)).ds,d.on=true->False:=fun d hd ho=>by
  have:d=del0:=by simpa[rn0] using hd
  subst this;cases ho
 refine⟨h1,zR _,h2,fun d hd ho=>(a1 d hd ho).elim,fun c hc=>(by cases hc),List.Pairwise.nil,fun p _=>zR _,zR _,fun d hd ho=>(a1 d hd ho).elim,fun d hd ho=>(a1 d hd ho).elim,?_,?_⟩
 · show 0+n*10 ^ 36=n*F1.U36
   rw[Nat.zero_add];rfl
 · show 0*F1.U36+0*F1.U36+0<=0*F1.U36
   omega
structure RunAt (w0:World) (bs bx bd bh j:Nat) (F:Nat->Prop) (l:RL) (S:F1.Sta) (x:F1.Rn) (W:World):Prop where
 ra:RA w0 F bs bx bd bh S x l W
 bk:F1.Bks S x
 gd:F1.Gd x
 q:x.q<=j
 c:x.C.length<=j
 g:x.giv<=j*10 ^ 39
 d:x.ds.length=4
theorem RunAt.sm {w0 W:World} {bs bx bd bh j:Nat} {F:Nat->Prop} {l:RL} {S:F1.Sta} {x:F1.Rn} (h:RunAt w0 bs bx bd bh j F l S x W) (hj:j<=200):F1.Sm x:=
 ⟨by have:=h.q;omega,by have:=h.c;omega,Nat.lt_of_le_of_lt (zT h.g (Nat.mul_le_mul_right _ hj)) (by decide),h.d⟩
theorem runAt0 {w0 W:World} {bs bx bd bh tok:Nat} {F:Nat->Prop} {R E:Option Addr} {m d me de:Nat} (h:RA w0 F bs bx bd bh (F1.refer ⟨[],[]⟩ 0) (rn0 (1+tok % 1000000) ((1+tok % 1000000)*10 ^ 36)) (rl0 R m d E me de) W):RunAt w0 bs bx bd bh 0 F (rl0 R m d E me de) (F1.refer ⟨[],[]⟩ 0) (rn0 (1+tok % 1000000) ((1+tok % 1000000)*10 ^ 36)) W:=
 ⟨h,bks0 _ _,gd0 (by omega) (by have:=Nat.mod_lt tok (show 0<1000000 by decide);omega),zR _,zR _,Nat.zero_le _,rfl⟩
theorem RunAt.ofDoes {w0 W W':World} {bs bx bd bh j:Nat} {F:Nat->Prop} {l:RL} {S:F1.Sta} {x:F1.Rn} {e:Ending} (h:RunAt w0 bs bx bd bh j F l S x W) (hd:DoesR w0 F bs bx bd bh x W e W'):e=.returned (.tuple #[])/\∃F' l' S' x',RunAt w0 bs bx bd bh (j+1) F' l' S' x' W':=by
 obtain⟨he,F',l',S',x',hr,hs,hb,hg,h1,h2,h3,h4⟩:=hd;exact⟨he,F',l',S',x',hr,hb,hg,by have:=h.q;omega,by have:=h.c;omega,by have:=h.g;omega,h4⟩
theorem RunAt.new {w0 W W':World} {bs bx bd bh j:Nat} {F:Nat->Prop} {l:RL} {S:F1.Sta} {x:F1.Rn} (h:RunAt w0 bs bx bd bh j F l S x W) (hn:New W W'):RunAt w0 bs bx bd bh j F l S x W':=⟨h.ra.new hn,h.bk,h.gd,h.q,h.c,h.g,h.d⟩
theorem RunAt.bsd {w0 W W':World} {bs bx bd bh j:Nat} {F:Nat->Prop} {l:RL} {S:F1.Sta} {x:F1.Rn} (h:RunAt w0 bs bx bd bh j F l S x W) (hu:Upd (fun b=>b=bs) W W') (hs:SF F bs W' (F1.ents S)):RunAt w0 bs bx bd bh j F l S x W':=⟨h.ra.bsd hu hs,h.bk,h.gd,h.q,h.c,h.g,h.d⟩
theorem new_cell {w w':World} {a:Addr} {v:Value} (hn:New w w') (h:w.cell? a=some v):w'.cell? a=some v:=(hn.cell (zqB _ _ h) id).trans h
theorem StpAt.zqb {w:World} {A D:Option Addr} {j m c:Nat} {s:StpV} (h:StpAt w A j s D m c):(-9223372036854775808<=s.wh/\s.wh<=9223372036854775807)/\(-9223372036854775808<=s.at_/\s.at_<=9223372036854775807)/\s.n<18446744073709551616:=by
 obtain⟨_,_,_,_,_,_,_,h⟩:=h;exact h
theorem StpAt.new {w w':World} {A D:Option Addr} {j m c:Nat} {s:StpV} (h:StpAt w A j s D m c) (hn:New w w'):StpAt w' A j s D m c:=by
 obtain⟨b,off,e,h1,h2,h3,h4,h5⟩:=h;exact⟨b,off,e,new_cell hn h1,new_cell hn h2,new_cell hn h3,new_cell hn h4,h5⟩
theorem lq_lt {w w':World} {A:Option Addr} {m c g:Nat} (h:LQ (fun b=>b<w.heap.size) w A m c g) (hn:New w w'):LQ (fun b=>b<w'.heap.size) w' A m c g:=
 (h.upd hn (fun _ _=>id)).mono (fun b hb _=>hb)
theorem Stp.new {w w':World} {A:Option Addr} {n:Nat} (h:Stp w A n) (hn:New w w'):Stp w' A n:=fun j hj=>by
 obtain⟨s,D,m,c,h1,h2⟩:=h j hj;exact⟨s,D,m,c,h1.new hn,fun hm=>lq_lt (h2 hm) hn⟩
theorem stp_range {w:World} {j m c:Nat} {s:StpV} {D:Option Addr} {b off:Nat} (h:StpAt w (some ⟨b,off,none⟩) j s D m c):w.rangeAt b (off+j*4) [.int .i64 s.wh,.int .i64 s.at_,.int .u64 (s.n:Int),.slice D m c]:=fun i v hv=>by
 obtain⟨b',off',e,h1,h2,h3,h4,_⟩:=h;cases e;rcases i with _|_|_|_|i
 · cases hv;exact h1
 · cases hv;exact h2
 · cases hv;exact h3
 · cases hv;exact h4
 · simp at hv
end Gz
end
