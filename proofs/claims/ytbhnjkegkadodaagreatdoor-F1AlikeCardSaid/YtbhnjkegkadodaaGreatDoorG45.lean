/- Part of the proof. -/
import Derived.Test.YtbhnjkegkadodaaGreatDoorLwJ
import Derived.Test.YtbhnjkegkadodaaGreatDoorG43
import Derived.Test.YtbhnjkegkadodaaGreatDoorG44
set_option linter.all false
set_option maxRecDepth 100000
set_option maxHeartbeats 8000000
namespace Go.Proofs.YtbhnjkegkadodaaGreatDoor
open Go Go.RowKit Go.Proofs Gl
theorem okay_s {S:F1.Sta} (h:S.h.all (fun x=>decide (x.1<18446744073709551616) && decide (x.2.1<Gn.B ^ 30) && decide (x.2.2<18446744073709551616))=true) (hc:S.c.all (fun x=>decide (x.1<18446744073709551616))=true) (hl:S.h.length+S.c.length<=100000):Okay S:=by
 have hh:∀x ∈ S.h,x.1<18446744073709551616/\x.2.1<Gn.B ^ 30/\x.2.2<18446744073709551616:=fun x hx=>by
  have:=List.all_eq_true.1 h x hx
  simp only[Bool.and_eq_true,decide_eq_true_eq]at this
  exact⟨this.1.1,this.1.2,this.2⟩
 exact⟨⟨fun x hx=>(hh x hx).1,fun x hx=>by have:=List.all_eq_true.1 hc x hx;simpa using this⟩,fun x hx=>⟨by
  have:=F1.nb_le (x:=x.2.1) (k:=240) (by
   have e:Gn.B=256 ^ 8:=by decide
   have h1:=(hh x hx).2.1
   rw[e,<-Nat.pow_mul]at h1;exact h1)
  omega,(hh x hx).2.2⟩,hl⟩
theorem run_mono {B B':Nat} {S:F1.Sta} {q:Nat} (hb:B<=B'):∀ {C:List F1.Rec} {s:F1.Clm},F1.RunOk B S q C s->F1.RunOk B' S q C s
 | [],_,h=>⟨zqL h.b1 hb,zqL h.b2 hb⟩
 | _ :: _,_,h=>⟨⟨⟨zqL h.1.b1 hb,zqL h.1.b2 hb⟩,zqL h.1.b3 hb⟩,run_mono hb h.2⟩
def s1:F1.Sta:=⟨[(0,0,1)],[]⟩
def s2:F1.Sta:=⟨[(0,0,2)],[]⟩
def s3:F1.Sta:=⟨[(0,0,1),(1,2500000000000000000000000000000000000,1)],[]⟩
def s4:F1.Sta:=⟨[(0,0,1),(2,2500000000000000000000000000000000000,1)],[]⟩
def s5:F1.Sta:=⟨[(0,0,1),(2,2500000000000000000000000000000000000,2)],[(2,4,2)]⟩
def s6:F1.Sta:=⟨[(0,0,1),(2,2500000000000000000000000000000000000,1),(3,7500000000000000000000000000000000000,1)],[(2,4,2)]⟩
def s7:F1.Sta:=⟨[(2,2500000000000000000000000000000000000,1),(3,7500000000000000000000000000000000000,1)],[(2,4,2)]⟩
theorem ok1:Okay s1:=okay_s (by decide +kernel) (by decide +kernel) (by decide)
theorem ok2:Okay s2:=okay_s (by decide +kernel) (by decide +kernel) (by decide)
theorem ok3:Okay s3:=okay_s (by decide +kernel) (by decide +kernel) (by decide)
theorem ok4:Okay s4:=okay_s (by decide +kernel) (by decide +kernel) (by decide)
theorem ok5:Okay s5:=okay_s (by decide +kernel) (by decide +kernel) (by decide)
theorem ok6:Okay s6:=okay_s (by decide +kernel) (by decide +kernel) (by decide)
theorem ok7:Okay s7:=okay_s (by decide +kernel) (by decide +kernel) (by decide)
end Go.Proofs.YtbhnjkegkadodaaGreatDoor
namespace Go.Proofs.YtbhnjkegkadodaaGreatDoor
open Go Go.RowKit Go.Proofs Gl
section
variable {F Q Q':Nat->Prop} {bs m d m' d':Nat} {R R' As:Option Addr} {ns cs:Nat} {w:World}
theorem kn13 (h:SF F bs w []):
 Calls Tryz.prog 13 #[.pointer (some ⟨bs,0,none⟩),.int .u64 16,.agg #[.int .u64 0,.int .u64 4,.slice R m d,.bool false,.int .u64 0,.bool false,.int .u64 0,.slice none 0 0,.slice none 0 0,.slice none 0 0]] w (StartR F bs w (F1.ents s1) (.agg #[.int .u64 0,.int .u64 4,.slice R m d,.bool false,.int .u64 0,.bool false,.int .u64 1,.slice none 0 0,.slice none 0 0,.slice none 0 0])):=
 start_led (n:=4) h
theorem kn25 (h:SF F bs w (F1.ents s1)) (hy:LQ Q w R m d (4*10 ^ 36)) (hx:LQ Q' w R' m' d' (1*10 ^ 36)):
 Calls Tryz.prog 25 #[.pointer (some ⟨bs,0,none⟩),.int .u64 16,.agg #[.int .u64 0,.int .u64 4,.slice R m d,.bool false,.int .u64 0,.bool false,.int .u64 1,.slice none 0 0,.slice none 0 0,.slice none 0 0],.agg #[.slice R' m' d',.int .u64 0,.slice none 0 0]] w (fun e w'=>∃R3 m3 d3,e=.returned (.agg #[.slice R' m' d',.int .u64 0,.slice R3 m3 d3])/\∃F',SF F' bs w' (F1.ents s2)/\Step F F' bs w w'/\LN (fun b=>Off F' bs b/\w.heap.size<=b) w' R3 m3 d3 (1*10 ^ 36)):=by
 have e:F1.refer s1 0=s2:=by rfl
 have e2:1*10 ^ 36*(4*10 ^ 36) / (4*10 ^ 36)=1*10 ^ 36:=by decide
 have:=hold_c (S:=s1) (dp:=0) (As:=none) (ns:=0) (cs:=0) ⟨0,4,R,m,d,false,0,false,1,none,0,0,none,0,0,none,0,0⟩ ok1 h hy hx (show 0<4*10 ^ 36 by decide) (show(4:Nat)<18446744073709551616 by decide) (zqL (show 1*10 ^ 36*(4*10 ^ 36)<Gn.B ^ 10 by decide) (@zbj 10 1000 (by omega))) (show 0<(1:Nat) by decide) (show(1:Nat)<18446744073709551616 by decide) (show 1+1<18446744073709551616 by decide)
 simp only[e,e2,Nat.sub_self]at this
 exact this
theorem kn27a (h:SF F bs w (F1.ents s2)) (hc:LQ Q w R' m' d' (10*10 ^ 36)):
 Calls Tryz.prog 27 #[.pointer (some ⟨bs,0,none⟩),.int .u64 16,.agg #[.int .u64 0,.int .u64 4,.slice R m d,.bool false,.int .u64 0,.bool false,.int .u64 1,.slice R' m' d',.slice none 0 0,.slice none 0 0]] w (StartR F bs w (F1.ents s3) (.tuple #[.agg #[.int .u64 0,.int .u64 4,.slice R m d,.bool false,.int .u64 0,.bool false,.int .u64 2,.slice none 0 0,.slice none 0 0,.slice none 0 0],.agg #[.slice none 0 0]])):=by
 have e:F1.close s2 1 4 (10*10 ^ 36)=s3:=by kernel_rfl
 have:=close_c (S:=s2) (cur:=(10*10 ^ 36)) ⟨0,4,R,m,d,false,0,false,1,R',m',d',none,0,0,none,0,0⟩ ok2 h hc (show 0<(4:Nat) by decide) (show(4:Nat)<18446744073709551616 by decide) (show 0<(1:Nat) by decide) (show(2:Nat)<18446744073709551616 by decide) (show(F1.hist s2 (1-1)).1+(10*10 ^ 36) / 4<Gn.B ^ 30 by decide +kernel) (show Okay { s2 with h:=F1.putR s2.h (1,(F1.hist s2 (1-1)).1+(10*10 ^ 36) / 4,1) } from(okay_s (by decide +kernel) (by decide +kernel) (by decide)))
 simp only[e]at this
 exact this
theorem kn19a (h:SF F bs w (F1.ents s3)) (hy:LQ (fun b=>b≠bs) w As ns cs (1*10 ^ 36)):
 Calls Tryz.prog 19 #[.pointer (some ⟨bs,0,none⟩),.int .u64 16,.agg #[.int .u64 0,.int .u64 4,.slice R m d,.bool false,.int .u64 0,.bool false,.int .u64 2,.slice none 0 0,.slice none 0 0,.slice none 0 0],.agg #[.slice R' m' d',.int .u64 0,.slice As ns cs]] w (ClaimR F bs w (F1.ents s3) 2500000000000000000000000000000000000 0):=by
 have hok:F1.RunOk (Gn.B ^ 10) s3 (2-1) [] ⟨0,1*10 ^ 36,(F1.hist s3 0).1,0⟩:=⟨by decide +kernel,by decide +kernel⟩
 have e:(F1.earn s3 (2-1) (([]:List F1.Rec).foldl (F1.cutS s3) ⟨0,1*10 ^ 36,(F1.hist s3 0).1,0⟩)).x=2500000000000000000000000000000000000:=by kernel_rfl
 have:=claim_c (S:=s3) (y:=1*10 ^ 36) (dp:=0) (Ad:=R') (nd:=m') (cd:=d') (As:=As) (ns:=ns) (cs:=cs) (C:=[]) ⟨0,4,R,m,d,false,0,false,2,none,0,0,none,0,0,none,0,0⟩ ok3 h hy (show 0<(2:Nat) by decide) (show(2:Nat)<18446744073709551616 by decide) (show(1:Nat)<18446744073709551616 by decide) (fun x hx=>by
  cases hx
  ) (by kernel_rfl) rfl rfl (run_mono (@zbj 10 1000 (by omega)) hok)
 simp only[e]at this
 exact this
theorem kn27b (h:SF F bs w (F1.ents s3)):
 Calls Tryz.prog 27 #[.pointer (some ⟨bs,0,none⟩),.int .u64 16,.agg #[.int .u64 0,.int .u64 4,.slice R m d,.bool false,.int .u64 0,.bool false,.int .u64 2,.slice none 0 0,.slice none 0 0,.slice none 0 0]] w (StartR F bs w (F1.ents s4) (.tuple #[.agg #[.int .u64 0,.int .u64 4,.slice R m d,.bool false,.int .u64 0,.bool false,.int .u64 3,.slice none 0 0,.slice none 0 0,.slice none 0 0],.agg #[.slice none 0 0]])):=by
 have e:F1.close s3 2 4 0=s4:=by kernel_rfl
 have:=close_c (S:=s3) (cur:=0) ⟨0,4,R,m,d,false,0,false,2,none,0,0,none,0,0,none,0,0⟩ ok3 h (LN.nil (fun _=>True) w).lq (show 0<(4:Nat) by decide) (show(4:Nat)<18446744073709551616 by decide) (show 0<(2:Nat) by decide) (show(3:Nat)<18446744073709551616 by decide) (show(F1.hist s3 (2-1)).1+0 / 4<Gn.B ^ 30 by decide +kernel) (show Okay { s3 with h:=F1.putR s3.h (2,(F1.hist s3 (2-1)).1+0 / 4,1) } from(okay_s (by decide +kernel) (by decide +kernel) (by decide)))
 simp only[e]at this
 exact this
theorem kn43 (h:SF F bs w (F1.ents s4)):
 Calls Tryz.prog 43 #[.pointer (some ⟨bs,0,none⟩),.int .u64 16,.agg #[.int .u64 0,.int .u64 4,.slice R m d,.bool false,.int .u64 0,.bool false,.int .u64 3,.slice none 0 0,.slice none 0 0,.slice none 0 0],.int .u64 2] w (StartR F bs w (F1.ents s5) (.agg #[.int .u64 0,.int .u64 2,.slice R m d,.bool false,.int .u64 0,.bool false,.int .u64 3,.slice none 0 0,.slice none 0 0,.slice none 0 0])):=by
 have e:F1.refer (cutAt s4 2 4 2) 2=s5:=by rfl
 have:=cut_c (S:=s4) (a:=2) ⟨0,4,R,m,d,false,0,false,3,none,0,0,none,0,0,none,0,0⟩ ok4 h (show 0<(3:Nat) by decide) (show(3:Nat)<18446744073709551616 by decide) (show(4:Nat)<18446744073709551616 by decide) (show(2:Nat)<18446744073709551616 by decide) (show Okay (cutAt s4 2 4 2) from(okay_s (by decide +kernel) (by decide +kernel) (by decide))) (show 1+1<18446744073709551616 by decide)
 simp only[show 3-1=2 from rfl,e]at this
 exact this
theorem kn27c (h:SF F bs w (F1.ents s5)) (hc:LQ Q w R' m' d' (10*10 ^ 36)):
 Calls Tryz.prog 27 #[.pointer (some ⟨bs,0,none⟩),.int .u64 16,.agg #[.int .u64 0,.int .u64 2,.slice R m d,.bool false,.int .u64 0,.bool false,.int .u64 3,.slice R' m' d',.slice none 0 0,.slice none 0 0]] w (StartR F bs w (F1.ents s6) (.tuple #[.agg #[.int .u64 0,.int .u64 2,.slice R m d,.bool false,.int .u64 0,.bool false,.int .u64 4,.slice none 0 0,.slice none 0 0,.slice none 0 0],.agg #[.slice none 0 0]])):=by
 have e:F1.close s5 3 2 (10*10 ^ 36)=s6:=by kernel_rfl
 have:=close_c (S:=s5) (cur:=(10*10 ^ 36)) ⟨0,2,R,m,d,false,0,false,3,R',m',d',none,0,0,none,0,0⟩ ok5 h hc (show 0<(2:Nat) by decide) (show(2:Nat)<18446744073709551616 by decide) (show 0<(3:Nat) by decide) (show(4:Nat)<18446744073709551616 by decide) (show(F1.hist s5 (3-1)).1+(10*10 ^ 36) / 2<Gn.B ^ 30 by decide +kernel) (show Okay { s5 with h:=F1.putR s5.h (3,(F1.hist s5 (3-1)).1+(10*10 ^ 36) / 2,1) } from(okay_s (by decide +kernel) (by decide +kernel) (by decide)))
 simp only[e]at this
 exact this
theorem kn19b (h:SF F bs w (F1.ents s6)) (hy:LQ (fun b=>b≠bs) w As ns cs (1*10 ^ 36)):
 Calls Tryz.prog 19 #[.pointer (some ⟨bs,0,none⟩),.int .u64 16,.agg #[.int .u64 0,.int .u64 2,.slice R m d,.bool false,.int .u64 0,.bool false,.int .u64 4,.slice none 0 0,.slice none 0 0,.slice none 0 0],.agg #[.slice R' m' d',.int .u64 0,.slice As ns cs]] w (ClaimR F bs w (F1.ents s6) 5000000000000000000000000000000000000 1):=by
 have hok:F1.RunOk (Gn.B ^ 10) s6 (4-1) [(2,4,2)] ⟨0,1*10 ^ 36,(F1.hist s6 0).1,0⟩:=⟨⟨⟨by decide +kernel,by decide +kernel⟩,by decide +kernel⟩,⟨by decide +kernel,by decide +kernel⟩⟩
 have e:(F1.earn s6 (4-1) (([(2,4,2)]:List F1.Rec).foldl (F1.cutS s6) ⟨0,1*10 ^ 36,(F1.hist s6 0).1,0⟩)).x=5000000000000000000000000000000000000:=by kernel_rfl
 have:=claim_c (S:=s6) (y:=1*10 ^ 36) (dp:=0) (Ad:=R') (nd:=m') (cd:=d') (As:=As) (ns:=ns) (cs:=cs) (C:=[(2,4,2)]) ⟨0,2,R,m,d,false,0,false,4,none,0,0,none,0,0,none,0,0⟩ ok6 h hy (show 0<(4:Nat) by decide) (show(4:Nat)<18446744073709551616 by decide) (show(1:Nat)<18446744073709551616 by decide) (fun x hx=>by
  have:x=(2,4,2):=by simpa[s6] using hx
  subst this;exact⟨by decide,by show 2<=4-1;decide,by decide,by decide⟩) (by kernel_rfl) rfl rfl (run_mono (@zbj 10 1000 (by omega)) hok)
 simp only[e]at this
 exact this
theorem kn42 (h:SF F bs w (F1.ents s6)):
 Calls Tryz.prog 42 #[.pointer (some ⟨bs,0,none⟩),.int .u64 16,.agg #[.slice R' m' d',.int .u64 0,.slice As ns cs]] w (StoR F bs w (F1.ents s7)):=by
 have e:F1.free s6 0=s7:=by rfl
 have:=ffree_c (S:=s6) (p:=0) (v0:=.slice R' m' d') (v2:=.slice As ns cs) ok6 (by decide) h ⟨_,_,_,rfl⟩ ⟨_,_,_,rfl⟩
 rw[e]at this
 exact this
end
end Go.Proofs.YtbhnjkegkadodaaGreatDoor
namespace Go.Proofs.YtbhnjkegkadodaaGreatDoor
open Go Go.RowKit Go.Proofs Gl
attribute [local go_sem] Oper.semAt_some
theorem known_c {w:World} (hl:Laid3 w):Calls Tryz.prog 9 #[] w fun e w'=>e=.returned (.bool true)/\New w w':=by
 have HLA:=zqH hl
 clear hl
 go_enter Tryz.func9,Tryz.ntmps9
 go_upto_region 4 with(go_at_call 12;refine knew_f.mono ?_;rintro e w1 ⟨bs,F,rfl,hsf,hn,hF,hbs⟩;have H1:=zqH (And.intro hsf (And.intro hn (And.intro hF hbs)));clear hsf hn hF hbs)
 go_upto_region 5 with(first
  | (go_at_call 24;refine(of_c (w:=w1) 4 (by decide)).mono ?_;rintro e w2 ⟨R,m,d,rfl,hr,hn⟩;have H2:=zqH (And.intro hr hn);clear hr hn)
  | (go_at_call 13;refine(kn13 (H1.out.1.new H2.out.2)).mono ?_;rintro e w3 ⟨rfl,F3,hsf,st⟩;have H3:=zqH (And.intro hsf st);clear hsf st))
 have HG:=zqH ((LG.begin H1.out.1).nw H2.out.2)
 have N2:=zqH (H2.out.1.po_of (LG.begin H1.out.1))
 obtain⟨W4,hW4⟩:∃W,W=w3.alloc (.cells #[.int .u64 0,.int .u64 4,.slice R m d,.bool false,.int .u64 0,.bool false,.int .u64 1,.slice none 0 0,.slice none 0 0,.slice none 0 0] 28):=⟨_,rfl⟩
 rw[<-hW4]
 have g:=(HG.out.step H3.out.2 H3.out.1).alloc #[.int .u64 0,.int .u64 4,.slice R m d,.bool false,.int .u64 0,.bool false,.int .u64 1,.slice none 0 0,.slice none 0 0,.slice none 0 0] 28
 rw[<-hW4]at g
 have q:=(N2.out.po_step H3.out.2).po_alloc #[.int .u64 0,.int .u64 4,.slice R m d,.bool false,.int .u64 0,.bool false,.int .u64 1,.slice none 0 0,.slice none 0 0,.slice none 0 0] 28
 rw[<-hW4]at q
 replace HG:=zqH g
 replace N2:=zqH q
 have HW:=zqH (And.intro H1.out.2.2.1 (And.intro H1.out.2.2.2 H1.out.2.1))
 obtain⟨b2,hb2⟩:∃b2,b2=w3.heap.size:=⟨_,rfl⟩
 rw[<-hb2]at HG N2 ⊢
 clear g q hW4 hb2 H1 H2 H3
 go_cut [3] (fun s3 wx=>∃(g:Nat) (RZ:Option Addr) (mZ dZ:Nat) (RD:Option Addr) (mD dD:Nat),s3=.pointer (some ⟨g,0,none⟩)/\Hid (∃F4,LG w1 F F4 bs (F1.ents s2) [(g,55,#[.slice RZ mZ dZ,.int .u64 0,.slice RD mD dD]),(b2,28,#[.int .u64 0,.int .u64 4,.slice R m d,.bool false,.int .u64 0,.bool false,.int .u64 1,.slice none 0 0,.slice none 0 0,.slice none 0 0])] wx/\LN (PO F4 bs [(g,55,#[.slice RZ mZ dZ,.int .u64 0,.slice RD mD dD]),(b2,28,#[.int .u64 0,.int .u64 4,.slice R m d,.bool false,.int .u64 0,.bool false,.int .u64 1,.slice none 0 0,.slice none 0 0,.slice none 0 0])]) wx R m d (4*10 ^ 36)/\LN (PO F4 bs [(g,55,#[.slice RZ mZ dZ,.int .u64 0,.slice RD mD dD]),(b2,28,#[.int .u64 0,.int .u64 4,.slice R m d,.bool false,.int .u64 0,.bool false,.int .u64 1,.slice none 0 0,.slice none 0 0,.slice none 0 0])]) wx RD mD dD (1*10 ^ 36)))
 case first=>
  have G0:=zqH (HG.out.nw ((Upd.refl _ W4).drew))
  have N0:=zqH (N2.out.po_new ((Upd.refl _ W4).drew))
  have hS0:=G0.out.k (i:=0) rfl
  clear HG N2
  refine beginK 6 (fun w'=>w'.heap[b2]?=some (.cells #[.int .u64 0,.int .u64 4,.slice R m d,.bool false,.int .u64 0,.bool false,.int .u64 1,.slice none 0 0,.slice none 0 0,.slice none 0 0] 28 (0,0))) (by kernel_rfl) (fun hcl=>?_)
  refine takeK 0 [0] rfl (by kernel_rfl) (by kernel_rfl) (by kernel_rfl) (by kernel_rfl) hcl (fun _ _ _ h=>h) (v:=.pointer (some ⟨bs,0,none⟩)) (Or.inl ⟨by rfl,?_⟩) hS0 (fun hcl2=>?_)
  · intro w' _
    go_simp
  simp only[Act.put,zqP]
  replace hcl:=hcl2
  clear hcl2
  refine takeK 1 [1] rfl (by kernel_rfl) (by kernel_rfl) (by kernel_rfl) (by kernel_rfl) hcl (fun _ _ _ h=>h) (v:=.agg #[.int .u64 0,.int .u64 4,.slice R m d,.bool false,.int .u64 0,.bool false,.int .u64 1,.slice none 0 0,.slice none 0 0,.slice none 0 0]) (Or.inl ⟨by rfl,?_⟩) hS0 (fun hcl2=>?_)
  · intro w' hk
    obtain⟨y0,y1,y2,y3,y4,y5,y6,y7,y8,y9⟩:=zqC hk
    go_simp
  simp only[Act.put,zqP]
  replace hcl:=hcl2
  clear hcl2
  refine twoK 2 5 rfl rfl (by kernel_rfl) hcl (by rfl) (by rfl) (fun K hK=>?_) (fun K hK=>?_)
  ·
    go_simp
    refine(of_c 1 (by decide)).mono ?_
    rintro e wz ⟨RZ,mZ,dZ,rfl,hz,hn⟩
    have G1:=zqH (G0.out.nw hn)
    have N1:=zqH (N0.out.po_new hn)
    have Z1:=zqH (hz.po_of G0.out)
    have hS1:=G1.out.k (i:=0) rfl
    clear hz hn
    refine hK _ _ (fun _=>hS1) (fun hcl2=>?_)
    clear hcl hK K
    try simp only[Act.put,zqP]
    replace hcl:=hcl2
    clear hcl2
    refine takeK 3 [3] rfl (by kernel_rfl) (by kernel_rfl) (by kernel_rfl) (by kernel_rfl) hcl (fun _ _ _ h=>h) (v:=.agg #[.slice RZ mZ dZ,.int .u64 0,.slice none 0 0]) (Or.inl ⟨by rfl,?_⟩) hS1 (fun hcl2=>?_)
    · intro w' _
      go_simp
    simp only[Act.put,zqP]
    replace hcl:=hcl2
    clear hcl2
    refine twoK 4 5 rfl rfl (by kernel_rfl) hcl (by rfl) (by rfl) (fun K hK=>?_) (fun K hK=>?_)
    ·
      go_simp
      refine(kn25 G1.out.sf N1.out.lq Z1.out.lq).mono ?_
      rintro e wd ⟨RD,mD,dD,rfl,F4,hsf,st,hd⟩
      have G2:=zqH (G1.out.step st hsf)
      have N2:=zqH (N1.out.po_step st)
      have D2:=zqH (hd.po_hold G1.out)
      have hS2:=G2.out.k (i:=0) rfl
      clear hsf st hd
      refine hK _ _ (fun _=>hS2) (fun hcl2=>?_)
      clear hcl hK K
      try simp only[Act.put,zqP]
      replace hcl:=hcl2
      clear hcl2
      refine oneK 5 rfl (by kernel_rfl) hcl (by rfl) (fun K hK=>?_)
      go_simp
      obtain⟨wa,hwa⟩:∃wa,wa=wd.alloc (.cells #[.slice none 0 0,.int .u64 0,.slice none 0 0] 55):=⟨_,rfl⟩
      rw[<-hwa]
      have hwb:wd.alloc (.cells #[.slice none 0 0,.int .u64 0,.slice none 0 0] 55)=wa:=by rw[hwa]
      have g3:=G2.out.alloc #[.slice none 0 0,.int .u64 0,.slice none 0 0] 55
      rw[hwb]at g3
      have G3:=zqH g3
      have qN:=N2.out.po_alloc #[.slice none 0 0,.int .u64 0,.slice none 0 0] 55
      rw[hwb]at qN
      have N3:=zqH qN
      have qD:=D2.out.po_alloc #[.slice none 0 0,.int .u64 0,.slice none 0 0] 55
      rw[hwb]at qD
      have D3:=zqH qD
      clear hwa hwb g3 qN qD
      have hS3:=G3.out.k (i:=1) rfl
      refine hK _ _ (fun _=>hS3) (fun hcl2=>?_)
      clear hcl hK K
      try simp only[Act.put,zqP]
      replace hcl:=hcl2
      clear hcl2
      obtain⟨g0,z0,g1,z1,g2,z2,hh,hset⟩:=put3 (G3.out.k (i:=0) rfl) (.slice RZ mZ dZ) (.int .u64 0) (.slice RD mD dD)
      refine oneK 6 rfl (by kernel_rfl) hcl (by rfl) (fun K hK=>?_)
      go_simp
      refine hK _ _ (fun h=>absurd rfl h) (fun _=>?_)
      clear hcl hK K
      try simp only[Act.put,zqP]
      refine doneK (by kernel_rfl) ?_ _
      go_wp2
      go_meet
      exact⟨_,RZ,mZ,dZ,RD,mD,dD,rfl,zqH ⟨F4,G3.out.set (i:=0) rfl hset hh,N3.out.po_set (i:=0) rfl hset,D3.out.po_set (i:=0) rfl hset⟩⟩
    ·
      go_simp
      obtain⟨wa,hwa⟩:∃wa,wa=wz.alloc (.cells #[.slice none 0 0,.int .u64 0,.slice none 0 0] 55):=⟨_,rfl⟩
      rw[<-hwa]
      have hwb:wz.alloc (.cells #[.slice none 0 0,.int .u64 0,.slice none 0 0] 55)=wa:=by rw[hwa]
      have g3:=G1.out.alloc #[.slice none 0 0,.int .u64 0,.slice none 0 0] 55
      rw[hwb]at g3
      have G2:=zqH g3
      have qN:=N1.out.po_alloc #[.slice none 0 0,.int .u64 0,.slice none 0 0] 55
      rw[hwb]at qN
      have N2:=zqH qN
      have qZ:=Z1.out.po_alloc #[.slice none 0 0,.int .u64 0,.slice none 0 0] 55
      rw[hwb]at qZ
      have Z2:=zqH qZ
      clear hwa hwb g3 qN qZ
      have hS2:=G2.out.k (i:=1) rfl
      refine hK _ _ (fun _=>hS2) (fun hcl2=>?_)
      clear hcl hK K
      try simp only[Act.put,zqP]
      replace hcl:=hcl2
      clear hcl2
      refine oneK 4 rfl (by kernel_rfl) hcl (by rfl) (fun K hK=>?_)
      go_simp
      refine(kn25 G2.out.sf N2.out.lq Z2.out.lq).mono ?_
      rintro e wd ⟨RD,mD,dD,rfl,F4,hsf,st,hd⟩
      have G3:=zqH (G2.out.step st hsf)
      have N3:=zqH (N2.out.po_step st)
      have D3:=zqH (hd.po_hold G2.out)
      have hS3:=G3.out.k (i:=1) rfl
      clear hsf st hd
      refine hK _ _ (fun _=>hS3) (fun hcl2=>?_)
      clear hcl hK K
      try simp only[Act.put,zqP]
      replace hcl:=hcl2
      clear hcl2
      obtain⟨g0,z0,g1,z1,g2,z2,hh,hset⟩:=put3 (G3.out.k (i:=0) rfl) (.slice RZ mZ dZ) (.int .u64 0) (.slice RD mD dD)
      refine oneK 6 rfl (by kernel_rfl) hcl (by rfl) (fun K hK=>?_)
      go_simp
      refine hK _ _ (fun h=>absurd rfl h) (fun _=>?_)
      clear hcl hK K
      try simp only[Act.put,zqP]
      refine doneK (by kernel_rfl) ?_ _
      go_wp2
      go_meet
      exact⟨_,RZ,mZ,dZ,RD,mD,dD,rfl,zqH ⟨F4,G3.out.set (i:=0) rfl hset hh,N3.out.po_set (i:=0) rfl hset,D3.out.po_set (i:=0) rfl hset⟩⟩
  ·
    go_simp
    obtain⟨wa,hwa⟩:∃wa,wa=(W4.alloc (.cells #[.slice none 0 0,.int .u64 0,.slice none 0 0] 55)).drew:=⟨_,rfl⟩
    rw[<-hwa]
    have hwb:W4.drew.alloc (.cells #[.slice none 0 0,.int .u64 0,.slice none 0 0] 55)=wa:=by rw[hwa];rfl
    have g3:=G0.out.alloc #[.slice none 0 0,.int .u64 0,.slice none 0 0] 55
    rw[hwb]at g3
    change LG _ _ _ _ _ ((W4.heap.size,_,_) :: _) _ at g3
    have G1:=zqH g3
    have qN:=N0.out.po_alloc #[.slice none 0 0,.int .u64 0,.slice none 0 0] 55
    rw[hwb]at qN
    change LN (PO _ _ ((W4.heap.size,_,_) :: _)) _ _ _ _ _ at qN
    have N1:=zqH qN
    clear hwa hwb g3 qN
    have hS1:=G1.out.k (i:=1) rfl
    refine hK _ _ (fun _=>hS1) (fun hcl2=>?_)
    clear hcl hK K
    try simp only[Act.put,zqP]
    replace hcl:=hcl2
    clear hcl2
    refine oneK 2 rfl (by kernel_rfl) hcl (by rfl) (fun K hK=>?_)
    go_simp
    refine(of_c 1 (by decide)).mono ?_
    rintro e wz ⟨RZ,mZ,dZ,rfl,hz,hn⟩
    have G2:=zqH (G1.out.nw hn)
    have N2:=zqH (N1.out.po_new hn)
    have Z2:=zqH (hz.po_of G1.out)
    have hS2:=G2.out.k (i:=1) rfl
    clear hz hn
    refine hK _ _ (fun _=>hS2) (fun hcl2=>?_)
    clear hcl hK K
    try simp only[Act.put,zqP]
    replace hcl:=hcl2
    clear hcl2
    refine takeK 3 [3] rfl (by kernel_rfl) (by kernel_rfl) (by kernel_rfl) (by kernel_rfl) hcl (fun _ _ _ h=>h) (v:=.agg #[.slice RZ mZ dZ,.int .u64 0,.slice none 0 0]) (Or.inl ⟨by rfl,?_⟩) hS2 (fun hcl2=>?_)
    · intro w' _
      go_simp
    simp only[Act.put,zqP]
    replace hcl:=hcl2
    clear hcl2
    refine oneK 4 rfl (by kernel_rfl) hcl (by rfl) (fun K hK=>?_)
    go_simp
    refine(kn25 G2.out.sf N2.out.lq Z2.out.lq).mono ?_
    rintro e wd ⟨RD,mD,dD,rfl,F4,hsf,st,hd⟩
    have G3:=zqH (G2.out.step st hsf)
    have N3:=zqH (N2.out.po_step st)
    have D3:=zqH (hd.po_hold G2.out)
    have hS3:=G3.out.k (i:=1) rfl
    clear hsf st hd
    refine hK _ _ (fun _=>hS3) (fun hcl2=>?_)
    clear hcl hK K
    try simp only[Act.put,zqP]
    replace hcl:=hcl2
    clear hcl2
    obtain⟨g0,z0,g1,z1,g2,z2,hh,hset⟩:=put3 (G3.out.k (i:=0) rfl) (.slice RZ mZ dZ) (.int .u64 0) (.slice RD mD dD)
    refine oneK 6 rfl (by kernel_rfl) hcl (by rfl) (fun K hK=>?_)
    go_simp
    refine hK _ _ (fun h=>absurd rfl h) (fun _=>?_)
    clear hcl hK K
    try simp only[Act.put,zqP]
    refine doneK (by kernel_rfl) ?_ _
    go_wp2
    go_meet
    exact⟨_,RZ,mZ,dZ,RD,mD,dD,rfl,zqH ⟨F4,G3.out.set (i:=0) rfl hset hh,N3.out.po_set (i:=0) rfl hset,D3.out.po_set (i:=0) rfl hset⟩⟩
 case rest=>
  obtain⟨g,RZ,mZ,dZ,RD,mD,dD,rfl,hcc⟩:=hcut
  obtain⟨W5,hW5⟩:∃W5,W5=wc:=⟨_,rfl⟩
  subst hW5
  obtain⟨F5,hg,hn2,hnd⟩:=hcc.out
  clear HG N2 hcc
  have HG:=zqH hg;have ND:=zqH hnd
  clear hg hn2 hnd
  go_upto_region 7 with(go_at_call 24;refine(of_c 10 (by decide)).mono ?_;rintro e w6 ⟨R6,m6,d6,rfl,hr,hn⟩;have k7:=(HG.out.nw hn).k (i:=1) rfl;have x7:=zaa k7 7 _ rfl;have z7:=zac k7 7;have HR:=zqH (And.intro hr hn);clear hr hn k7)
  obtain⟨W6,hW6⟩:∃W,W=w6.setCell ⟨b2,7,none⟩ (.slice R6 m6 d6):=⟨_,rfl⟩
  rw[<-hW6]
  have hu:Upd (fun b=>b=b2) w6 W6:=by rw[hW6];exact Upd.setCell _ _ rfl
  have k:=zab ((HG.out.nw HR.out.2).k (i:=1) rfl) (.slice R6 m6 d6) (i:=7)
  simp only[List.setIfInBounds_toArray,List.set_cons_succ,List.set_cons_zero]at k
  rw[<-hW6]at k
  have NX:Hid (LN (PO F5 bs [(g,55,#[.slice RZ mZ dZ,.int .u64 0,.slice RD mD dD]),(b2,28,#[.int .u64 0,.int .u64 4,.slice R m d,.bool false,.int .u64 0,.bool false,.int .u64 1,.slice R6 m6 d6,.slice none 0 0,.slice none 0 0])]) W6 R6 m6 d6 (10*10 ^ 36)):=zqH ((HR.out.1.po_of HG.out).po_set (i:=1) rfl hu)
  replace ND:Hid (LN (PO F5 bs [(g,55,#[.slice RZ mZ dZ,.int .u64 0,.slice RD mD dD]),(b2,28,#[.int .u64 0,.int .u64 4,.slice R m d,.bool false,.int .u64 0,.bool false,.int .u64 1,.slice R6 m6 d6,.slice none 0 0,.slice none 0 0])]) W6 RD mD dD (1*10 ^ 36)):=zqH ((ND.out.po_new HR.out.2).po_set (i:=1) rfl hu)
  replace HG:Hid (LG w1 F F5 bs (F1.ents s2) [(g,55,#[.slice RZ mZ dZ,.int .u64 0,.slice RD mD dD]),(b2,28,#[.int .u64 0,.int .u64 4,.slice R m d,.bool false,.int .u64 0,.bool false,.int .u64 1,.slice R6 m6 d6,.slice none 0 0,.slice none 0 0])] W6):=zqH ((HG.out.nw HR.out.2).set (i:=1) rfl hu k)
  clear hu k x7 z7 HR hW6
  have k1:=HG.out.k (i:=1) rfl
  have HC:=zqH (kn27a (R:=R) (m:=m) (d:=d) HG.out.sf NX.out.lq)
  go_upto_region 8 with(first
   | (refine wpList_load_row rfl 28 (.tmp 2) rfl b2 rfl 28 _ (0,0) _ k1 Tryz.underlying28 rfl (by kernel_rfl) ?_)
   | (go_at_call 27
      refine HC.out.mono ?_
      rintro e w7 ⟨rfl,F7,hsf,st⟩
      have hg:=HG.out.step st hsf
      have hg:=hg.alloc #[.slice none 0 0] 26
      have k2:=hg.k (i:=2) rfl
      have HH:=zqH (And.intro st hg)
      clear hsf st hg HC k1)
   | (refine wpList_store_row rfl 28 (.tmp 2) (.tmp 31) rfl b2 #[.int .u64 0,.int .u64 4,.slice R m d,.bool false,.int .u64 0,.bool false,.int .u64 2,.slice none 0 0,.slice none 0 0,.slice none 0 0] rfl rfl 28 _ k2 (by kernel_rfl) rfl (by simp[Value.oneCell']) ?_)
   | (have k3:=(HH.out.2.set (i:=2) (cs':=#[.int .u64 0,.int .u64 4,.slice R m d,.bool false,.int .u64 0,.bool false,.int .u64 2,.slice none 0 0,.slice none 0 0,.slice none 0 0]) rfl (Upd.setRow _ _ rfl) (setRow_heap _ b2 _ #[.int .u64 0,.int .u64 4,.slice R m d,.bool false,.int .u64 0,.bool false,.int .u64 2,.slice none 0 0,.slice none 0 0,.slice none 0 0] 28 _ k2)).k (i:=0) rfl;refine wpList_store_row rfl 26 (.tmp 4) (.tmp 32) rfl w7.heap.size #[.slice none 0 0] rfl rfl 26 _ k3 (by kernel_rfl) rfl (by simp[Value.oneCell']) ?_))
  obtain⟨W7,hW7⟩:∃W,W=((w7.alloc (.cells #[.slice none 0 0] 26)).setRow b2 #[.int .u64 0,.int .u64 4,.slice R m d,.bool false,.int .u64 0,.bool false,.int .u64 2,.slice none 0 0,.slice none 0 0,.slice none 0 0]).setRow w7.heap.size #[.slice none 0 0]:=⟨_,rfl⟩
  rw[<-hW7]
  have hg:=HH.out.2
  have hk:=setRow_heap _ b2 _ #[.int .u64 0,.int .u64 4,.slice R m d,.bool false,.int .u64 0,.bool false,.int .u64 2,.slice none 0 0,.slice none 0 0,.slice none 0 0] 28 _ (hg.k (i:=2) rfl)
  have hu:Upd (fun b=>b=b2) (w7.alloc (.cells #[.slice none 0 0] 26)) ((w7.alloc (.cells #[.slice none 0 0] 26)).setRow b2 #[.int .u64 0,.int .u64 4,.slice R m d,.bool false,.int .u64 0,.bool false,.int .u64 2,.slice none 0 0,.slice none 0 0,.slice none 0 0]):=Upd.setRow _ _ rfl
  have hg2:=hg.set (i:=2) rfl hu hk
  have hk3:=setRow_heap _ w7.heap.size _ #[.slice none 0 0] 26 _ (hg2.k (i:=0) rfl)
  have hu3:Upd (fun b=>b=w7.heap.size) ((w7.alloc (.cells #[.slice none 0 0] 26)).setRow b2 #[.int .u64 0,.int .u64 4,.slice R m d,.bool false,.int .u64 0,.bool false,.int .u64 2,.slice none 0 0,.slice none 0 0,.slice none 0 0]) (((w7.alloc (.cells #[.slice none 0 0] 26)).setRow b2 #[.int .u64 0,.int .u64 4,.slice R m d,.bool false,.int .u64 0,.bool false,.int .u64 2,.slice none 0 0,.slice none 0 0,.slice none 0 0]).setRow w7.heap.size #[.slice none 0 0]):=Upd.setRow _ _ rfl
  have hg3:=hg2.set (i:=0) rfl hu3 hk3
  rw[<-hW7]at hg3 hu3
  clear NX
  replace ND:Hid (LN (PO F7 bs [(w7.heap.size,26,#[.slice none 0 0]),(g,55,#[.slice RZ mZ dZ,.int .u64 0,.slice RD mD dD]),(b2,28,#[.int .u64 0,.int .u64 4,.slice R m d,.bool false,.int .u64 0,.bool false,.int .u64 2,.slice none 0 0,.slice none 0 0,.slice none 0 0])]) W7 RD mD dD (1*10 ^ 36)):=zqH ((((ND.out.po_step HH.out.1).po_alloc #[.slice none 0 0] 26).po_set (cs':=#[.int .u64 0,.int .u64 4,.slice R m d,.bool false,.int .u64 0,.bool false,.int .u64 2,.slice none 0 0,.slice none 0 0,.slice none 0 0]) (i:=2) rfl hu).po_set (cs':=#[.slice none 0 0]) (i:=0) rfl hu3)
  replace HG:Hid (LG w1 F F7 bs (F1.ents s3) [(w7.heap.size,26,#[.slice none 0 0]),(g,55,#[.slice RZ mZ dZ,.int .u64 0,.slice RD mD dD]),(b2,28,#[.int .u64 0,.int .u64 4,.slice R m d,.bool false,.int .u64 0,.bool false,.int .u64 2,.slice none 0 0,.slice none 0 0,.slice none 0 0])] W7):=zqH hg3
  clear k2 hg hk hu hg2 hk3 hu3 hg3 HH hW7
  have k1:=HG.out.k (i:=2) rfl
  have k2:=HG.out.k (i:=1) rfl
  have HC:=zqH (kn19a (R:=R) (m:=m) (d:=d) (R':=RZ) (m':=mZ) (d':=dZ) HG.out.sf ND.out.po_off.lq)
  go_upto_region 9 with(first
   | (refine wpList_load_row rfl 28 (.tmp 2) rfl b2 rfl 28 _ (0,0) _ k1 Tryz.underlying28 rfl (by kernel_rfl) ?_)
   | (refine wpList_load_row rfl 55 (.tmp 3) rfl g rfl 55 _ (0,0) _ k2 Tryz.underlying55 rfl (by kernel_rfl) ?_)
   | (go_at_call 19
      refine HC.out.mono ?_
      rintro e w8 ⟨R8,m8,d8,rfl,hsf,hu,hr⟩
      have HH:=zqH (And.intro hsf (And.intro hu hr))
      clear hsf hu hr HC k1 k2))
  obtain⟨W8,hW8⟩:∃W,W=w8.alloc (.cells #[.slice R8 m8 d8] 26):=⟨_,rfl⟩
  rw[<-hW8]
  have hg:=(HG.out.bsd HH.out.2.1 HH.out.1).alloc #[.slice R8 m8 d8] 26
  rw[<-hW8]at hg
  have q:=(ND.out.po_bs HH.out.2.1).po_alloc #[.slice R8 m8 d8] 26
  rw[<-hW8]at q
  replace ND:Hid (LN (PO F7 bs [(w8.heap.size,26,#[.slice R8 m8 d8]),(w7.heap.size,26,#[.slice none 0 0]),(g,55,#[.slice RZ mZ dZ,.int .u64 0,.slice RD mD dD]),(b2,28,#[.int .u64 0,.int .u64 4,.slice R m d,.bool false,.int .u64 0,.bool false,.int .u64 2,.slice none 0 0,.slice none 0 0,.slice none 0 0])]) W8 RD mD dD (1*10 ^ 36)):=zqH q
  clear q
  have q:=(HH.out.2.2.po_of HG.out).po_alloc #[.slice R8 m8 d8] 26
  rw[<-hW8]at q
  have NA:Hid (LN (PO F7 bs [(w8.heap.size,26,#[.slice R8 m8 d8]),(w7.heap.size,26,#[.slice none 0 0]),(g,55,#[.slice RZ mZ dZ,.int .u64 0,.slice RD mD dD]),(b2,28,#[.int .u64 0,.int .u64 4,.slice R m d,.bool false,.int .u64 0,.bool false,.int .u64 2,.slice none 0 0,.slice none 0 0,.slice none 0 0])]) W8 R8 m8 d8 2500000000000000000000000000000000000):=zqH q
  clear q
  replace HG:Hid (LG w1 F F7 bs (F1.ents s3) [(w8.heap.size,26,#[.slice R8 m8 d8]),(w7.heap.size,26,#[.slice none 0 0]),(g,55,#[.slice RZ mZ dZ,.int .u64 0,.slice RD mD dD]),(b2,28,#[.int .u64 0,.int .u64 4,.slice R m d,.bool false,.int .u64 0,.bool false,.int .u64 2,.slice none 0 0,.slice none 0 0,.slice none 0 0])] W8):=zqH hg
  clear hg HH hW8
  have hlw:=HLA.out.new (HG.out.new HW.out.2.2 HW.out.1 HW.out.2.1)
  have HT1:Hid (Calls Tryz.prog 44 #[.agg #[.slice RD mD dD]] W8 fun e w'=>e=.returned (.string ⟨#[49]⟩)/\New W8 w'):=zqH (by
   have h:=text_whole (k:=1) ND.out.lq rfl (by decide) hlw
   rwa [show Lib.decDigits 1=[49] from by decide +kernel]at h)
  have HT2:=zqH (fun V (hn:New W8 V)=>text_half (NA.out.lq.new hn) rfl (hlw.new hn))
  have HKJ:=zqH (fun(W:World) (hn:New W8 W)=>(⟨zaa ((HG.out.nw hn).k (i:=3) rfl) 6 _ rfl,zaa ((HG.out.nw hn).k (i:=2) rfl) 1 _ rfl,zaa ((HG.out.nw hn).k (i:=2) rfl) 2 _ rfl,zaa ((HG.out.nw hn).k (i:=1) rfl) 0 _ rfl,zaa ((HG.out.nw hn).k (i:=0) rfl) 0 _ rfl⟩:W.cell? ⟨b2,6,none⟩=some (.int .u64 2)/\W.cell? ⟨g,1,none⟩=some (.int .u64 0)/\W.cell? ⟨g,2,none⟩=some (.slice RD mD dD)/\W.cell? ⟨w7.heap.size,0,none⟩=some (.slice none 0 0)/\W.cell? ⟨w8.heap.size,0,none⟩=some (.slice R8 m8 d8)))
  obtain⟨c0,c1,c2,c3,c4⟩:=HKJ.out _ (Upd.refl _ _)
  go_upto_region 11 with(first
   | (go_at_call_of 44 (Value.agg #[Value.slice RD mD dD])
      refine HT1.out.mono ?_
      rintro e wa ⟨rfl,hna⟩
      obtain⟨e0,e1,e2,e3,e4⟩:=HKJ.out _ hna
      have NA1:=zqH hna
      clear hna HT1 c0 c1 c2 c3 c4)
   | (go_at_call 26
      refine(dzero_c (w:=wa) (LN.nil (fun _=>True) wa).lq).mono ?_
      rintro e wb ⟨rfl,hnb⟩
      rw[decide_eq_true rfl]
      obtain⟨f0,f1,f2,f3,f4⟩:=HKJ.out _ (NA1.out.trans hnb)
      have NB1:=zqH (NA1.out.trans hnb)
      clear hnb e0 e1 e2 e3 e4)
   | (go_at_call 44
      refine(HT2.out _ NB1.out).mono ?_
      rintro e wc ⟨rfl,hnc⟩
      have NC1:=zqH (NB1.out.trans hnc)
      clear hnc HT2 f0 f1 f2 f3 f4))
  replace ND:Hid (LN (PO F7 bs [(w8.heap.size,26,#[.slice R8 m8 d8]),(w7.heap.size,26,#[.slice none 0 0]),(g,55,#[.slice RZ mZ dZ,.int .u64 0,.slice RD mD dD]),(b2,28,#[.int .u64 0,.int .u64 4,.slice R m d,.bool false,.int .u64 0,.bool false,.int .u64 2,.slice none 0 0,.slice none 0 0,.slice none 0 0])]) wc RD mD dD (1*10 ^ 36)):=zqH (ND.out.po_new NC1.out)
  replace NA:Hid (LN (PO F7 bs [(w8.heap.size,26,#[.slice R8 m8 d8]),(w7.heap.size,26,#[.slice none 0 0]),(g,55,#[.slice RZ mZ dZ,.int .u64 0,.slice RD mD dD]),(b2,28,#[.int .u64 0,.int .u64 4,.slice R m d,.bool false,.int .u64 0,.bool false,.int .u64 2,.slice none 0 0,.slice none 0 0,.slice none 0 0])]) wc R8 m8 d8 2500000000000000000000000000000000000):=zqH (NA.out.po_new NC1.out)
  replace HG:Hid (LG w1 F F7 bs (F1.ents s3) [(w8.heap.size,26,#[.slice R8 m8 d8]),(w7.heap.size,26,#[.slice none 0 0]),(g,55,#[.slice RZ mZ dZ,.int .u64 0,.slice RD mD dD]),(b2,28,#[.int .u64 0,.int .u64 4,.slice R m d,.bool false,.int .u64 0,.bool false,.int .u64 2,.slice none 0 0,.slice none 0 0,.slice none 0 0])] wc):=zqH (HG.out.nw NC1.out)
  clear HKJ hlw NA1 NB1 NC1
  clear NA
  have k1:=HG.out.k (i:=3) rfl
  have HC:=zqH (kn27b (R:=R) (m:=m) (d:=d) HG.out.sf)
  go_upto_region 12 with(first
   | (refine wpList_load_row rfl 28 (.tmp 2) rfl b2 rfl 28 _ (0,0) _ k1 Tryz.underlying28 rfl (by kernel_rfl) ?_)
   | (go_at_call 27
      refine HC.out.mono ?_
      rintro e w11 ⟨rfl,F11,hsf,st⟩
      have hg:=HG.out.step st hsf
      have k2:=hg.k (i:=3) rfl
      have HH:=zqH (And.intro st hg)
      clear hsf st hg HC k1)
   | (refine wpList_store_row rfl 28 (.tmp 2) (.tmp 72) rfl b2 #[.int .u64 0,.int .u64 4,.slice R m d,.bool false,.int .u64 0,.bool false,.int .u64 3,.slice none 0 0,.slice none 0 0,.slice none 0 0] rfl rfl 28 _ k2 (by kernel_rfl) rfl (by simp[Value.oneCell']) ?_))
  obtain⟨W11,hW11⟩:∃W,W=w11.setRow b2 #[.int .u64 0,.int .u64 4,.slice R m d,.bool false,.int .u64 0,.bool false,.int .u64 3,.slice none 0 0,.slice none 0 0,.slice none 0 0]:=⟨_,rfl⟩
  rw[<-hW11]
  have hg:=HH.out.2
  have hk:=setRow_heap _ b2 _ #[.int .u64 0,.int .u64 4,.slice R m d,.bool false,.int .u64 0,.bool false,.int .u64 3,.slice none 0 0,.slice none 0 0,.slice none 0 0] 28 _ (hg.k (i:=3) rfl)
  have hu:Upd (fun b=>b=b2) w11 (w11.setRow b2 #[.int .u64 0,.int .u64 4,.slice R m d,.bool false,.int .u64 0,.bool false,.int .u64 3,.slice none 0 0,.slice none 0 0,.slice none 0 0]):=Upd.setRow _ _ rfl
  have hg2:=hg.set (i:=3) rfl hu hk
  rw[<-hW11]at hg2 hu
  replace ND:Hid (LN (PO F11 bs [(w8.heap.size,26,#[.slice R8 m8 d8]),(w7.heap.size,26,#[.slice none 0 0]),(g,55,#[.slice RZ mZ dZ,.int .u64 0,.slice RD mD dD]),(b2,28,#[.int .u64 0,.int .u64 4,.slice R m d,.bool false,.int .u64 0,.bool false,.int .u64 3,.slice none 0 0,.slice none 0 0,.slice none 0 0])]) W11 RD mD dD (1*10 ^ 36)):=zqH ((ND.out.po_step HH.out.1).po_set (cs':=#[.int .u64 0,.int .u64 4,.slice R m d,.bool false,.int .u64 0,.bool false,.int .u64 3,.slice none 0 0,.slice none 0 0,.slice none 0 0]) (i:=3) rfl hu)
  replace HG:Hid (LG w1 F F11 bs (F1.ents s4) [(w8.heap.size,26,#[.slice R8 m8 d8]),(w7.heap.size,26,#[.slice none 0 0]),(g,55,#[.slice RZ mZ dZ,.int .u64 0,.slice RD mD dD]),(b2,28,#[.int .u64 0,.int .u64 4,.slice R m d,.bool false,.int .u64 0,.bool false,.int .u64 3,.slice none 0 0,.slice none 0 0,.slice none 0 0])] W11):=zqH hg2
  clear k2 hg hk hu hg2  HH hW11
  have k1:=HG.out.k (i:=3) rfl
  have HC:=zqH (kn43 (R:=R) (m:=m) (d:=d) HG.out.sf)
  go_upto_region 13 with(first
   | (refine wpList_load_row rfl 28 (.tmp 2) rfl b2 rfl 28 _ (0,0) _ k1 Tryz.underlying28 rfl (by kernel_rfl) ?_)
   | (go_at_call 43
      refine HC.out.mono ?_
      rintro e w12 ⟨rfl,F12,hsf,st⟩
      have hg:=HG.out.step st hsf
      have k2:=hg.k (i:=3) rfl
      have HH:=zqH (And.intro st hg)
      clear hsf st hg HC k1)
   | (refine wpList_store_row rfl 28 (.tmp 2) (.tmp 76) rfl b2 #[.int .u64 0,.int .u64 2,.slice R m d,.bool false,.int .u64 0,.bool false,.int .u64 3,.slice none 0 0,.slice none 0 0,.slice none 0 0] rfl rfl 28 _ k2 (by kernel_rfl) rfl (by simp[Value.oneCell']) ?_))
  obtain⟨W12,hW12⟩:∃W,W=w12.setRow b2 #[.int .u64 0,.int .u64 2,.slice R m d,.bool false,.int .u64 0,.bool false,.int .u64 3,.slice none 0 0,.slice none 0 0,.slice none 0 0]:=⟨_,rfl⟩
  rw[<-hW12]
  have hg:=HH.out.2
  have hk:=setRow_heap _ b2 _ #[.int .u64 0,.int .u64 2,.slice R m d,.bool false,.int .u64 0,.bool false,.int .u64 3,.slice none 0 0,.slice none 0 0,.slice none 0 0] 28 _ (hg.k (i:=3) rfl)
  have hu:Upd (fun b=>b=b2) w12 (w12.setRow b2 #[.int .u64 0,.int .u64 2,.slice R m d,.bool false,.int .u64 0,.bool false,.int .u64 3,.slice none 0 0,.slice none 0 0,.slice none 0 0]):=Upd.setRow _ _ rfl
  have hg2:=hg.set (i:=3) rfl hu hk
  rw[<-hW12]at hg2 hu
  replace ND:Hid (LN (PO F12 bs [(w8.heap.size,26,#[.slice R8 m8 d8]),(w7.heap.size,26,#[.slice none 0 0]),(g,55,#[.slice RZ mZ dZ,.int .u64 0,.slice RD mD dD]),(b2,28,#[.int .u64 0,.int .u64 2,.slice R m d,.bool false,.int .u64 0,.bool false,.int .u64 3,.slice none 0 0,.slice none 0 0,.slice none 0 0])]) W12 RD mD dD (1*10 ^ 36)):=zqH ((ND.out.po_step HH.out.1).po_set (cs':=#[.int .u64 0,.int .u64 2,.slice R m d,.bool false,.int .u64 0,.bool false,.int .u64 3,.slice none 0 0,.slice none 0 0,.slice none 0 0]) (i:=3) rfl hu)
  replace HG:Hid (LG w1 F F12 bs (F1.ents s5) [(w8.heap.size,26,#[.slice R8 m8 d8]),(w7.heap.size,26,#[.slice none 0 0]),(g,55,#[.slice RZ mZ dZ,.int .u64 0,.slice RD mD dD]),(b2,28,#[.int .u64 0,.int .u64 2,.slice R m d,.bool false,.int .u64 0,.bool false,.int .u64 3,.slice none 0 0,.slice none 0 0,.slice none 0 0])] W12):=zqH hg2
  clear k2 hg hk hu hg2  HH hW12
  go_upto_region 14 with(go_at_call 24;refine(of_c 10 (by decide)).mono ?_;rintro e w13 ⟨R13,m13,d13,rfl,hr,hn⟩;have k7:=(HG.out.nw hn).k (i:=3) rfl;have x7:=zaa k7 7 _ rfl;have z7:=zac k7 7;have HR:=zqH (And.intro hr hn);clear hr hn k7)
  obtain⟨W13,hW13⟩:∃W,W=w13.setCell ⟨b2,7,none⟩ (.slice R13 m13 d13):=⟨_,rfl⟩
  rw[<-hW13]
  have hu:Upd (fun b=>b=b2) w13 W13:=by rw[hW13];exact Upd.setCell _ _ rfl
  have k:=zab ((HG.out.nw HR.out.2).k (i:=3) rfl) (.slice R13 m13 d13) (i:=7)
  simp only[List.setIfInBounds_toArray,List.set_cons_succ,List.set_cons_zero]at k
  rw[<-hW13]at k
  have NX:Hid (LN (PO F12 bs [(w8.heap.size,26,#[.slice R8 m8 d8]),(w7.heap.size,26,#[.slice none 0 0]),(g,55,#[.slice RZ mZ dZ,.int .u64 0,.slice RD mD dD]),(b2,28,#[.int .u64 0,.int .u64 2,.slice R m d,.bool false,.int .u64 0,.bool false,.int .u64 3,.slice R13 m13 d13,.slice none 0 0,.slice none 0 0])]) W13 R13 m13 d13 (10*10 ^ 36)):=zqH ((HR.out.1.po_of HG.out).po_set (i:=3) rfl hu)
  replace ND:Hid (LN (PO F12 bs [(w8.heap.size,26,#[.slice R8 m8 d8]),(w7.heap.size,26,#[.slice none 0 0]),(g,55,#[.slice RZ mZ dZ,.int .u64 0,.slice RD mD dD]),(b2,28,#[.int .u64 0,.int .u64 2,.slice R m d,.bool false,.int .u64 0,.bool false,.int .u64 3,.slice R13 m13 d13,.slice none 0 0,.slice none 0 0])]) W13 RD mD dD (1*10 ^ 36)):=zqH ((ND.out.po_new HR.out.2).po_set (i:=3) rfl hu)
  replace HG:Hid (LG w1 F F12 bs (F1.ents s5) [(w8.heap.size,26,#[.slice R8 m8 d8]),(w7.heap.size,26,#[.slice none 0 0]),(g,55,#[.slice RZ mZ dZ,.int .u64 0,.slice RD mD dD]),(b2,28,#[.int .u64 0,.int .u64 2,.slice R m d,.bool false,.int .u64 0,.bool false,.int .u64 3,.slice R13 m13 d13,.slice none 0 0,.slice none 0 0])] W13):=zqH ((HG.out.nw HR.out.2).set (i:=3) rfl hu k)
  clear hu k x7 z7 HR hW13
  have k1:=HG.out.k (i:=3) rfl
  have HC:=zqH (kn27c (R:=R) (m:=m) (d:=d) HG.out.sf NX.out.lq)
  go_upto_region 15 with(first
   | (refine wpList_load_row rfl 28 (.tmp 2) rfl b2 rfl 28 _ (0,0) _ k1 Tryz.underlying28 rfl (by kernel_rfl) ?_)
   | (go_at_call 27
      refine HC.out.mono ?_
      rintro e w14 ⟨rfl,F14,hsf,st⟩
      have hg:=HG.out.step st hsf
      have k2:=hg.k (i:=3) rfl
      have HH:=zqH (And.intro st hg)
      clear hsf st hg HC k1)
   | (refine wpList_store_row rfl 28 (.tmp 2) (.tmp 83) rfl b2 #[.int .u64 0,.int .u64 2,.slice R m d,.bool false,.int .u64 0,.bool false,.int .u64 4,.slice none 0 0,.slice none 0 0,.slice none 0 0] rfl rfl 28 _ k2 (by kernel_rfl) rfl (by simp[Value.oneCell']) ?_))
  obtain⟨W14,hW14⟩:∃W,W=w14.setRow b2 #[.int .u64 0,.int .u64 2,.slice R m d,.bool false,.int .u64 0,.bool false,.int .u64 4,.slice none 0 0,.slice none 0 0,.slice none 0 0]:=⟨_,rfl⟩
  rw[<-hW14]
  have hg:=HH.out.2
  have hk:=setRow_heap _ b2 _ #[.int .u64 0,.int .u64 2,.slice R m d,.bool false,.int .u64 0,.bool false,.int .u64 4,.slice none 0 0,.slice none 0 0,.slice none 0 0] 28 _ (hg.k (i:=3) rfl)
  have hu:Upd (fun b=>b=b2) w14 (w14.setRow b2 #[.int .u64 0,.int .u64 2,.slice R m d,.bool false,.int .u64 0,.bool false,.int .u64 4,.slice none 0 0,.slice none 0 0,.slice none 0 0]):=Upd.setRow _ _ rfl
  have hg2:=hg.set (i:=3) rfl hu hk
  rw[<-hW14]at hg2 hu
  clear NX
  replace ND:Hid (LN (PO F14 bs [(w8.heap.size,26,#[.slice R8 m8 d8]),(w7.heap.size,26,#[.slice none 0 0]),(g,55,#[.slice RZ mZ dZ,.int .u64 0,.slice RD mD dD]),(b2,28,#[.int .u64 0,.int .u64 2,.slice R m d,.bool false,.int .u64 0,.bool false,.int .u64 4,.slice none 0 0,.slice none 0 0,.slice none 0 0])]) W14 RD mD dD (1*10 ^ 36)):=zqH ((ND.out.po_step HH.out.1).po_set (cs':=#[.int .u64 0,.int .u64 2,.slice R m d,.bool false,.int .u64 0,.bool false,.int .u64 4,.slice none 0 0,.slice none 0 0,.slice none 0 0]) (i:=3) rfl hu)
  replace HG:Hid (LG w1 F F14 bs (F1.ents s6) [(w8.heap.size,26,#[.slice R8 m8 d8]),(w7.heap.size,26,#[.slice none 0 0]),(g,55,#[.slice RZ mZ dZ,.int .u64 0,.slice RD mD dD]),(b2,28,#[.int .u64 0,.int .u64 2,.slice R m d,.bool false,.int .u64 0,.bool false,.int .u64 4,.slice none 0 0,.slice none 0 0,.slice none 0 0])] W14):=zqH hg2
  clear k2 hg hk hu hg2  HH hW14
  have k1:=HG.out.k (i:=3) rfl
  have k2:=HG.out.k (i:=2) rfl
  have HC:=zqH (kn19b (R:=R) (m:=m) (d:=d) (R':=RZ) (m':=mZ) (d':=dZ) HG.out.sf ND.out.po_off.lq)
  go_upto_region 16 with(first
   | (refine wpList_load_row rfl 28 (.tmp 2) rfl b2 rfl 28 _ (0,0) _ k1 Tryz.underlying28 rfl (by kernel_rfl) ?_)
   | (refine wpList_load_row rfl 55 (.tmp 3) rfl g rfl 55 _ (0,0) _ k2 Tryz.underlying55 rfl (by kernel_rfl) ?_)
   | (go_at_call 19
      refine HC.out.mono ?_
      rintro e w15 ⟨R15,m15,d15,rfl,hsf,hu,hr⟩
      have HH:=zqH (And.intro hsf (And.intro hu hr))
      clear hsf hu hr HC k1 k2))
  obtain⟨W15,hW15⟩:∃W,W=w15.alloc (.cells #[.slice R15 m15 d15] 26):=⟨_,rfl⟩
  rw[<-hW15]
  have hg:=(HG.out.bsd HH.out.2.1 HH.out.1).alloc #[.slice R15 m15 d15] 26
  rw[<-hW15]at hg
  have q:=(ND.out.po_bs HH.out.2.1).po_alloc #[.slice R15 m15 d15] 26
  rw[<-hW15]at q
  replace ND:Hid (LN (PO F14 bs [(w15.heap.size,26,#[.slice R15 m15 d15]),(w8.heap.size,26,#[.slice R8 m8 d8]),(w7.heap.size,26,#[.slice none 0 0]),(g,55,#[.slice RZ mZ dZ,.int .u64 0,.slice RD mD dD]),(b2,28,#[.int .u64 0,.int .u64 2,.slice R m d,.bool false,.int .u64 0,.bool false,.int .u64 4,.slice none 0 0,.slice none 0 0,.slice none 0 0])]) W15 RD mD dD (1*10 ^ 36)):=zqH q
  clear q
  have q:=(HH.out.2.2.po_of HG.out).po_alloc #[.slice R15 m15 d15] 26
  rw[<-hW15]at q
  have NB:Hid (LN (PO F14 bs [(w15.heap.size,26,#[.slice R15 m15 d15]),(w8.heap.size,26,#[.slice R8 m8 d8]),(w7.heap.size,26,#[.slice none 0 0]),(g,55,#[.slice RZ mZ dZ,.int .u64 0,.slice RD mD dD]),(b2,28,#[.int .u64 0,.int .u64 2,.slice R m d,.bool false,.int .u64 0,.bool false,.int .u64 4,.slice none 0 0,.slice none 0 0,.slice none 0 0])]) W15 R15 m15 d15 5000000000000000000000000000000000000):=zqH q
  clear q
  replace HG:Hid (LG w1 F F14 bs (F1.ents s6) [(w15.heap.size,26,#[.slice R15 m15 d15]),(w8.heap.size,26,#[.slice R8 m8 d8]),(w7.heap.size,26,#[.slice none 0 0]),(g,55,#[.slice RZ mZ dZ,.int .u64 0,.slice RD mD dD]),(b2,28,#[.int .u64 0,.int .u64 2,.slice R m d,.bool false,.int .u64 0,.bool false,.int .u64 4,.slice none 0 0,.slice none 0 0,.slice none 0 0])] W15):=zqH hg
  clear hg HH hW15
  obtain⟨bm16,hm⟩:=HG.out.sf.m
  have HC:Hid (Calls Tryz.prog 21 #[.pointer (some ⟨bs,0,none⟩),.int .u64 16] W15 fun e w'=>e=.returned (.tuple #[.int .i64 3,.int .i64 1])/\SFm F14 bs bm16 w' (F1.ents s6)/\Upd (fun b=>b=bs) W15 w'):=zqH (count_c ok6 hm)
  clear hm
  go_upto_region 17 with(go_at_call 21;refine HC.out.mono ?_;rintro e w16 ⟨rfl,hsm,hu⟩;have HH:=zqH (And.intro hsm hu);clear hsm hu HC)
  replace ND:Hid (LN (PO F14 bs [(w15.heap.size,26,#[.slice R15 m15 d15]),(w8.heap.size,26,#[.slice R8 m8 d8]),(w7.heap.size,26,#[.slice none 0 0]),(g,55,#[.slice RZ mZ dZ,.int .u64 0,.slice RD mD dD]),(b2,28,#[.int .u64 0,.int .u64 2,.slice R m d,.bool false,.int .u64 0,.bool false,.int .u64 4,.slice none 0 0,.slice none 0 0,.slice none 0 0])]) w16 RD mD dD (1*10 ^ 36)):=zqH (ND.out.po_bs HH.out.2)
  replace NB:Hid (LN (PO F14 bs [(w15.heap.size,26,#[.slice R15 m15 d15]),(w8.heap.size,26,#[.slice R8 m8 d8]),(w7.heap.size,26,#[.slice none 0 0]),(g,55,#[.slice RZ mZ dZ,.int .u64 0,.slice RD mD dD]),(b2,28,#[.int .u64 0,.int .u64 2,.slice R m d,.bool false,.int .u64 0,.bool false,.int .u64 4,.slice none 0 0,.slice none 0 0,.slice none 0 0])]) w16 R15 m15 d15 5000000000000000000000000000000000000):=zqH (NB.out.po_bs HH.out.2)
  replace HG:Hid (LG w1 F F14 bs (F1.ents s6) [(w15.heap.size,26,#[.slice R15 m15 d15]),(w8.heap.size,26,#[.slice R8 m8 d8]),(w7.heap.size,26,#[.slice none 0 0]),(g,55,#[.slice RZ mZ dZ,.int .u64 0,.slice RD mD dD]),(b2,28,#[.int .u64 0,.int .u64 2,.slice R m d,.bool false,.int .u64 0,.bool false,.int .u64 4,.slice none 0 0,.slice none 0 0,.slice none 0 0])] w16):=zqH (HG.out.bsd HH.out.2 HH.out.1.sf)
  clear HH
  have k2:=HG.out.k (i:=3) rfl
  have HC:=zqH (kn42 (R':=RZ) (m':=mZ) (d':=dZ) (As:=RD) (ns:=mD) (cs:=dD) HG.out.sf)
  go_upto_region 18 with(first
   | (refine wpList_load_row rfl 55 (.tmp 3) rfl g rfl 55 _ (0,0) _ k2 Tryz.underlying55 rfl (by kernel_rfl) ?_)
   | (go_at_call 42;refine HC.out.mono ?_;rintro e w17 ⟨rfl,F17,hsf,st⟩;have HH:=zqH (And.intro hsf st);clear hsf st HC k2))
  clear ND
  replace NB:Hid (LN (PO F17 bs [(w15.heap.size,26,#[.slice R15 m15 d15]),(w8.heap.size,26,#[.slice R8 m8 d8]),(w7.heap.size,26,#[.slice none 0 0]),(g,55,#[.slice RZ mZ dZ,.int .u64 0,.slice RD mD dD]),(b2,28,#[.int .u64 0,.int .u64 2,.slice R m d,.bool false,.int .u64 0,.bool false,.int .u64 4,.slice none 0 0,.slice none 0 0,.slice none 0 0])]) w17 R15 m15 d15 5000000000000000000000000000000000000):=zqH (NB.out.po_step HH.out.2)
  replace HG:Hid (LG w1 F F17 bs (F1.ents s7) [(w15.heap.size,26,#[.slice R15 m15 d15]),(w8.heap.size,26,#[.slice R8 m8 d8]),(w7.heap.size,26,#[.slice none 0 0]),(g,55,#[.slice RZ mZ dZ,.int .u64 0,.slice RD mD dD]),(b2,28,#[.int .u64 0,.int .u64 2,.slice R m d,.bool false,.int .u64 0,.bool false,.int .u64 4,.slice none 0 0,.slice none 0 0,.slice none 0 0])] w17):=zqH (HG.out.step HH.out.2 HH.out.1)
  clear HH
  obtain⟨bm18,hm⟩:=HG.out.sf.m
  have HC:Hid (Calls Tryz.prog 21 #[.pointer (some ⟨bs,0,none⟩),.int .u64 16] w17 fun e w'=>e=.returned (.tuple #[.int .i64 2,.int .i64 1])/\SFm F17 bs bm18 w' (F1.ents s7)/\Upd (fun b=>b=bs) w17 w'):=zqH (count_c ok7 hm)
  clear hm
  go_upto_region 19 with(go_at_call 21;refine HC.out.mono ?_;rintro e w18 ⟨rfl,hsm,hu⟩;have HH:=zqH (And.intro hsm hu);clear hsm hu HC)
  replace NB:Hid (LN (PO F17 bs [(w15.heap.size,26,#[.slice R15 m15 d15]),(w8.heap.size,26,#[.slice R8 m8 d8]),(w7.heap.size,26,#[.slice none 0 0]),(g,55,#[.slice RZ mZ dZ,.int .u64 0,.slice RD mD dD]),(b2,28,#[.int .u64 0,.int .u64 2,.slice R m d,.bool false,.int .u64 0,.bool false,.int .u64 4,.slice none 0 0,.slice none 0 0,.slice none 0 0])]) w18 R15 m15 d15 5000000000000000000000000000000000000):=zqH (NB.out.po_bs HH.out.2)
  replace HG:Hid (LG w1 F F17 bs (F1.ents s7) [(w15.heap.size,26,#[.slice R15 m15 d15]),(w8.heap.size,26,#[.slice R8 m8 d8]),(w7.heap.size,26,#[.slice none 0 0]),(g,55,#[.slice RZ mZ dZ,.int .u64 0,.slice RD mD dD]),(b2,28,#[.int .u64 0,.int .u64 2,.slice R m d,.bool false,.int .u64 0,.bool false,.int .u64 4,.slice none 0 0,.slice none 0 0,.slice none 0 0])] w18):=zqH (HG.out.bsd HH.out.2 HH.out.1.sf)
  clear HH
  have HC:=zqH (gone_c ok7 HG.out.sf)
  go_upto_region 20 with(go_at_call 35;refine HC.out.mono ?_;rintro e w19 ⟨rfl,F19,hsf,st⟩;have HH:=zqH (And.intro hsf st);clear hsf st HC)
  replace NB:Hid (LN (PO F19 bs [(w15.heap.size,26,#[.slice R15 m15 d15]),(w8.heap.size,26,#[.slice R8 m8 d8]),(w7.heap.size,26,#[.slice none 0 0]),(g,55,#[.slice RZ mZ dZ,.int .u64 0,.slice RD mD dD]),(b2,28,#[.int .u64 0,.int .u64 2,.slice R m d,.bool false,.int .u64 0,.bool false,.int .u64 4,.slice none 0 0,.slice none 0 0,.slice none 0 0])]) w19 R15 m15 d15 5000000000000000000000000000000000000):=zqH (NB.out.po_step HH.out.2)
  replace HG:Hid (LG w1 F F19 bs [] [(w15.heap.size,26,#[.slice R15 m15 d15]),(w8.heap.size,26,#[.slice R8 m8 d8]),(w7.heap.size,26,#[.slice none 0 0]),(g,55,#[.slice RZ mZ dZ,.int .u64 0,.slice RD mD dD]),(b2,28,#[.int .u64 0,.int .u64 2,.slice R m d,.bool false,.int .u64 0,.bool false,.int .u64 4,.slice none 0 0,.slice none 0 0,.slice none 0 0])] w19):=zqH (HG.out.step HH.out.2 HH.out.1)
  clear HH
  have hlw:=HLA.out.new (HG.out.new HW.out.2.2 HW.out.1 HW.out.2.1)
  have HT1:Hid (Calls Tryz.prog 44 #[.agg #[.slice R15 m15 d15]] w19 fun e w'=>e=.returned (.string ⟨#[53]⟩)/\New w19 w'):=zqH (by
   have h:=text_whole (k:=5) NB.out.lq (by decide) (by decide) hlw
   rwa [show Lib.decDigits 5=[53] from by decide +kernel]at h)
  have HD:Hid (∀W,SF F19 bs W []->Calls Tryz.prog 17 #[.pointer (some ⟨bs,0,none⟩)] W fun e w'=>∃A c,e=.returned (.slice A 0 c)/\New W w'):=zqH (fun W hs=>by
   obtain⟨base,bm,D,A,n,c,vs,ps,h1,h2,h3,h4,h5,h6⟩:=hs
   refine(dump_c h1 h2 (by rw[h6];decide) (by rw[h6];intro e he;cases he)).mono ?_
   rintro e w' ⟨A',n',c',cells,rfl,hn,_,_,hw,_⟩
   rw[h6]at hn
   obtain rfl:n'=0:=hn
   exact⟨A',c',rfl,hw⟩)
  have HKJ:=zqH (fun(W:World) (hn:New w19 W)=>(⟨zaa ((HG.out.nw hn).k (i:=4) rfl) 1 _ rfl,zaa ((HG.out.nw hn).k (i:=0) rfl) 0 _ rfl⟩:W.cell? ⟨b2,1,none⟩=some (.int .u64 2)/\W.cell? ⟨w15.heap.size,0,none⟩=some (.slice R15 m15 d15)))
  obtain⟨c0,c1⟩:=HKJ.out _ (Upd.refl _ _)
  go_wp2_with (first
   | (go_at_call 44;refine HT1.out.mono ?_;rintro e wa ⟨rfl,hna⟩;have NA1:=zqH hna;clear hna HT1 c0 c1)
   | (go_at_call 17;refine(HD.out wa (HG.out.nw NA1.out).sf).mono ?_;rintro e wb ⟨Ad,cd,rfl,hnb⟩;have NB1:=zqH (NA1.out.trans hnb);clear hnb HD))
  go_ret
  exact⟨rfl,(HG.out.nw NB1.out).new HW.out.2.2 HW.out.1 HW.out.2.1⟩
end Go.Proofs.YtbhnjkegkadodaaGreatDoor
