/- Part of the proof. -/
import Derived.Test.YtbhnjkegkadodaaGreatDoorG22
import Derived.Test.YtbhnjkegkadodaaGreatDoorG25
import Derived.Test.YtbhnjkegkadodaaGreatDoorG27
set_option linter.all false
set_option maxRecDepth 100000
set_option maxHeartbeats 8000000
namespace Gz
open Go Go.RowKit Go.Proofs Gl
structure Okay (S:F1.Sta):Prop where
 fine:F1.Fine S
 fit:∀x ∈ S.h,F1.nb x.2.1<=255/\x.2.2<18446744073709551616
 few:S.h.length+S.c.length<=100000
theorem encH_length (r c:Nat):(F1.encH r c).length=1+F1.nb r+8:=by simp[F1.encH,zah];omega
theorem Okay.len {S:F1.Sta} (h:Okay S):(F1.ents S).length<=1000000:=by
 unfold F1.ents;rw[List.length_append,List.length_map,List.length_map];have:=h.few;omega
theorem Okay.val {S:F1.Sta} (h:Okay S):∀e ∈ F1.ents S,e.2.length<=1073741824:=by
 intro e he;unfold F1.ents at he;rcases List.mem_append.1 he with he|he
 · obtain⟨x,hx,rfl⟩:=List.mem_map.1 he;show(F1.encH x.2.1 x.2.2).length<=_;rw[encH_length];have:=(h.fit x hx).1;omega
 · obtain⟨x,hx,rfl⟩:=List.mem_map.1 he;show(F1.encC x.2.1 x.2.2).length<=_;simp[F1.encC,zah]
theorem find_mem {S:F1.Sta} {p:Nat} {x:F1.Rec} (h:F1.findR S.h p=some x):x ∈ S.h:=List.mem_of_find?_eq_some h
theorem Okay.hist {S:F1.Sta} (h:Okay S) (p:Nat):F1.nb (F1.hist S p).1<=255/\(F1.hist S p).2<18446744073709551616:=by
 unfold F1.hist;cases hf:F1.findR S.h p with
 | none=>exact⟨by show F1.nb 0<=255;decide,by show(0:Nat)<_;decide⟩
 | some x=>exact h.fit x (find_mem hf)
def Hist2 (w:World) (r c:Nat) (e:Ending) (w':World):Prop:=∃(er:Int) (R:Option Addr) (m d:Nat),e=.returned (.tuple #[.agg #[.slice R m d,.int .u64 (c:Int)],.int .i64 er])/\LN (NB w) w' R m d r/\New w w'
theorem hist2_nil (w:World):Calls Tryz.prog 112 #[.slice none 0 0] w (Hist2 w 0 0):=(history_nil w).mono fun e w' h=>⟨80,none,0,0,h.1,LN.nil _ _,zbc h.2⟩
theorem hist2_of {w:World} {A:Option Addr} {n c x y:Nat} (h:By w A n c (F1.encH x y)) (hb:F1.nb x<=255) (hy:y<18446744073709551616):Calls Tryz.prog 112 #[.slice A n c] w (Hist2 w x y):=
 (rhistory_c h hb hy).mono fun e w' ⟨R,m,d,he,hr,hn⟩=>⟨0,R,m,d,he,hr,hn⟩
theorem get_hist {F:Nat->Prop} {bs bm p:Nat} {w:World} {S:F1.Sta} (hS:Okay S) (hp:p<18446744073709551616) (h:SFm F bs bm w (F1.ents S)) {A:Option Addr} {c:Nat} (hk:By w A 18 c (F1.hk p)) (hkb:∀a,A=some a → 0<18->a.block≠bs):
 Calls Tryz.prog 111 #[.pointer (some ⟨bs,0,none⟩),.slice A 18 c] w fun e w'=>∃A2 n2 c2 bb,e=.returned (.tuple #[.slice A2 n2 c2,.bool bb])/\SFm F bs bm w' (F1.ents S)/\Upd (fun b=>b=bs) w w'/\∀W,New w' W->Calls Tryz.prog 112 #[.slice A2 n2 c2] W (Hist2 W (F1.hist S p).1 (F1.hist S p).2):=by
 refine(kget_m h hk hkb hS.len hS.val).mono ?_
 rintro e w' ⟨a2,hu,hg⟩;rw[F1.get_h hS.fine hp]at hg;unfold F1.hist;cases hf:F1.findR S.h p with
 | none=>
   rw[hf]at hg;rcases hg with⟨_,rfl⟩|⟨v,A2,n2,c2,hg,_⟩
   · exact⟨none,0,0,false,rfl,a2,hu,fun W _=>hist2_nil W⟩
   · cases hg
 | some x=>
   rw[hf]at hg;rcases hg with⟨hg,_⟩|⟨v,A2,n2,c2,hg,rfl,hb⟩
   · cases hg
   · obtain⟨A3,n3,c3,e3,a3,hd⟩:=hb;cases e3;have hv:F1.encH x.2.1 x.2.2=v:=(by simpa using hg);subst hv;have hx:=hS.fit x (find_mem hf);exact⟨A2,n2,c2,true,rfl,a2,hu,fun W hn=>hist2_of (a3.new hn) hx.1 hx.2⟩
end Gz
namespace F1
open Gl
theorem find_put (l:List Rec) (x:Rec) (p:Nat):findR (putR l x) p=if p=x.1 then some x else findR l p:=by
 have a2:∀(m:List Rec),p<x.1 → (m.filter fun y=>decide (y.1<x.1)).find? (fun y=>y.1 == p)=m.find? fun y=>y.1 == p:=fun m hp=>by
  induction m with
  | nil=>rfl
  | cons y m ih=>
    by_cases h:y.1<x.1
    · rw[List.filter_cons_of_pos (by simpa using h),List.find?_cons,List.find?_cons,ih]
    · rw[List.filter_cons_of_neg (by simpa using h),ih,List.find?_cons];have:(y.1 == p)=false:=(by simp;omega);rw[this]
 have a3:∀(m:List Rec),x.1<p → (m.filter fun y=>decide (x.1<y.1)).find? (fun y=>y.1 == p)=m.find? fun y=>y.1 == p:=fun m hp=>by
  induction m with
  | nil=>rfl
  | cons y m ih=>
    by_cases h:x.1<y.1
    · rw[List.filter_cons_of_pos (by simpa using h),List.find?_cons,List.find?_cons,ih]
    · rw[List.filter_cons_of_neg (by simpa using h),ih,List.find?_cons];have:(y.1 == p)=false:=(by simp;omega);rw[this]
 have a4:∀(m:List Rec),p<=x.1 → (m.filter fun y=>decide (x.1<y.1)).find? (fun y=>y.1 == p)=none:=fun m hp=>List.find?_eq_none.2 fun y hy=>by
  have:=of_decide_eq_true (List.mem_filter.1 hy).2;simp;omega
 have a1:∀(m:List Rec),x.1<=p → (m.filter fun y=>decide (y.1<x.1)).find? (fun y=>y.1 == p)=none:=fun m hp=>List.find?_eq_none.2 fun y hy=>by
  have:=of_decide_eq_true (List.mem_filter.1 hy).2;simp;omega
 unfold findR putR;rw[List.find?_append,List.find?_cons];by_cases h:p=x.1
 · rw[if_pos h,a1 l (by omega)];have:(x.1 == p)=true:=by simp[h]
   rw[this];rfl
 · have h2:(x.1 == p)=false:=by simp;omega
   rw[if_neg h,h2];show((l.filter fun y=>decide (y.1<x.1)).find? (fun y=>y.1 == p)).or ((l.filter fun y=>decide (x.1<y.1)).find? fun y=>y.1 == p)=_;rcases Nat.lt_or_gt_of_ne h with h|h
   · rw[a2 l h,a4 l (by omega)];simp
   · rw[a1 l (by omega),a3 l h];simp
theorem find_del (l:List Rec) (q p:Nat):findR (delR l q) p=if p=q then none else findR l p:=by
 unfold findR delR;by_cases h:p=q
 · rw[if_pos h];refine List.find?_eq_none.2 fun y hy=>?_
   have:=(List.mem_filter.1 hy).2;simp at this ⊢;omega
 · rw[if_neg h]
   induction l with
   | nil=>rfl
   | cons y l ih=>
     by_cases hy:y.1=q
     · rw[List.filter_cons_of_neg (by simp[hy]),ih,List.find?_cons];have:(y.1 == p)=false:=(by simp;omega);rw[this]
     · rw[List.filter_cons_of_pos (by simp[hy]),List.find?_cons,List.find?_cons,ih]
theorem hist_put (S:Sta) (q r c p:Nat):hist { S with h:=putR S.h (q,r,c) } p=if p=q then(r,c) else hist S p:=by
 unfold hist;show((findR (putR S.h (q,r,c)) p).map _).getD _=_;rw[find_put]
 split<;>rfl
theorem hist_del (S:Sta) (q p:Nat):hist { S with h:=delR S.h q } p=if p=q then(0,0) else hist S p:=by
 unfold hist;show((findR (delR S.h q) p).map _).getD _=_;rw[find_del]
 split<;>rfl
theorem hist_refer (S:Sta) (q p:Nat):hist (refer S q) p=if p=q then((hist S q).1,(hist S q).2+1) else hist S p:=hist_put S q _ _ p
theorem hist_free (S:Sta) (q p:Nat):hist (free S q) p=if p=q then(if(hist S q).2=0 then hist S q else if(hist S q).2=1 then(0,0) else((hist S q).1,(hist S q).2-1)) else hist S p:=by
 unfold free
 split
 · split<;>simp_all
 · split
   · rw[hist_del]
   · rw[hist_put]
theorem mem_put {l:List Rec} {x y:Rec} (h:y ∈ putR l x):y=x\/y ∈ l:=by
 simp only[putR,List.mem_append,List.mem_cons,List.mem_filter]at h;rcases h with h|h|h
 · exact .inr h.1
 · exact .inl h
 · exact .inr h.1
theorem len_put (l:List Rec) (x:Rec):(putR l x).length<=l.length+1:=by
 have key:∀m:List Rec,(m.filter fun y=>decide (y.1<x.1)).length+(m.filter fun y=>decide (x.1<y.1)).length<=m.length:=fun m=>by
  induction m with
  | nil=>simp
  | cons y m ih=>
    by_cases h1:y.1<x.1
    · have h2:¬x.1<y.1:=(by omega);rw[List.filter_cons_of_pos (by simpa using h1),List.filter_cons_of_neg (by simpa using h2)];simp only[List.length_cons];omega
    · rw[List.filter_cons_of_neg (by simpa using h1)];by_cases h2:x.1<y.1
      · rw[List.filter_cons_of_pos (by simpa using h2)];simp only[List.length_cons];omega
      · rw[List.filter_cons_of_neg (by simpa using h2)];simp only[List.length_cons];omega
 have:=key l;unfold putR;rw[List.length_append,List.length_cons];omega
theorem hist_mem (S:Sta) (p:Nat):hist S p=(0,0)\/∃x ∈ S.h,x.1=p/\hist S p=x.2:=by
 unfold hist findR;cases h:S.h.find? (fun y=>y.1 == p) with
 | none=>exact .inl rfl
 | some x=>exact .inr ⟨x,List.mem_of_find?_eq_some h,by simpa using List.find?_some h,rfl⟩
structure Led (S:Sta) (q r M N:Nat):Prop where
 all:∀x ∈ S.h,x.1<=q/\x.2.1<=r/\x.2.2<=M
 cut:∀x ∈ S.c,x.1<=q
 len:S.h.length+S.c.length<=N
 last:(hist S q).1=r/\1<=(hist S q).2
 zero:(hist S 0).1=0
theorem Led.hist_le {S:Sta} {q r M N:Nat} (h:Led S q r M N) (p:Nat):(hist S p).1<=r/\(hist S p).2<=M:=by
 rcases hist_mem S p with e|⟨x,hx,_,e⟩
 · rw[e];exact⟨Nat.zero_le _,Nat.zero_le _⟩
 · rw[e];exact(h.all x hx).2
theorem led_put {S:Sta} {q r M N:Nat} (h:Led S q r M N) {p x c:Nat} (hp:p<=q) (hx:x<=r):(∀y ∈ putR S.h (p,x,c),y.1<=q/\y.2.1<=r/\y.2.2<=max M c)/\(putR S.h (p,x,c)).length+S.c.length<=N+1:=by
 refine⟨fun y hy=>?_,by have:=len_put S.h (p,x,c);have:=h.len;omega⟩;rcases mem_put hy with rfl|hy
 · exact⟨hp,hx,Nat.le_max_right _ _⟩
 · have:=h.all y hy;exact⟨this.1,this.2.1,zT this.2.2 (Nat.le_max_left _ _)⟩
theorem Led.refer {S:Sta} {q r M N p:Nat} (h:Led S q r M N) (hp:p<=q):Led (refer S p) q r (M+1) (N+1):=by
 have hh:=h.hist_le p;have a1:=led_put h (c:=(hist S p).2+1) hp hh.1;refine⟨fun y hy=>?_,h.cut,a1.2,?_,?_⟩
 · have:=a1.1 y hy;exact⟨this.1,this.2.1,by omega⟩
 · rw[hist_refer];split
   · rename_i e;subst e;exact⟨h.last.1,by show 1<=(hist S q).2+1;omega⟩
   · exact h.last
 · rw[hist_refer];split
   · rename_i e;subst e;exact h.zero
   · exact h.zero
theorem Led.free {S:Sta} {q r M N p:Nat} (h:Led S q r M N) (hp:p<q\/(p=q/\2<=(hist S q).2)):Led (free S p) q r M (N+1):=by
 have hh:=h.hist_le p;have a1:(hist (F1.free S p) q).1=r/\1<=(hist (F1.free S p) q).2:=by
  rw[hist_free];by_cases e:q=p
  · subst e;have h2:2<=(hist S q).2:=(by omega);rw[if_pos rfl,if_neg (by omega),if_neg (by omega)];exact⟨h.last.1,by show 1<=(hist S q).2-1;omega⟩
  · rw[if_neg e];exact h.last
 have a2:(hist (F1.free S p) 0).1=0:=by
  rw[hist_free]
  split
  · rename_i e;subst e
    split
    · exact h.zero
    · split
      · rfl
      · exact h.zero
  · exact h.zero
 refine⟨fun y hy=>?_,fun x hx=>?_,?_,a1,a2⟩
 · unfold F1.free at hy
   split at hy
   · exact h.all y hy
   · split at hy
     · exact h.all y (List.mem_filter.1 hy).1
     · have:=(led_put h (c:=(hist S p).2-1) (show p<=q by omega) hh.1).1 y hy;exact⟨this.1,this.2.1,by omega⟩
 · unfold F1.free at hx
   split at hx
   · exact h.cut x hx
   · split at hx<;>exact h.cut x hx
 · have hl:=h.len;unfold F1.free
   split
   · omega
   · split
     · show(delR S.h p).length+S.c.length<=_
       have:=List.length_filter_le (fun y:Rec=>!(y.1 == p)) S.h;unfold delR;omega
     · exact(led_put h (c:=(hist S p).2-1) (show p<=q by omega) hh.1).2
theorem Led.next {S:Sta} {q r M N x:Nat} (h:Led S q r M N) (hM:1<=M):Led { S with h:=putR S.h (q+1,r+x,1) } (q+1) (r+x) M (N+1):=by
 refine⟨fun y hy=>?_,fun y hy=>Nat.le_succ_of_le (h.cut y hy),by have:=len_put S.h (q+1,r+x,1);have:=h.len;show(putR S.h _).length+S.c.length<=_;omega,by rw[hist_put,if_pos rfl];exact⟨rfl,zR _⟩,by rw[hist_put,if_neg (by omega)];exact h.zero⟩;rcases mem_put hy with rfl|hy
 · exact⟨zR _,zR _,hM⟩
 · have:=h.all y hy;exact⟨by omega,by omega,this.2.2⟩
theorem close_eq {S:Sta} {q r M N:Nat} (h:Led S q r M N) (tok cur:Nat):close S (q+1) tok cur=F1.free { S with h:=putR S.h (q+1,r+(if tok=0 then 0 else cur / tok),1) } q:=by
 unfold close;rw[Nat.add_sub_cancel,h.last.1]
theorem Led.close {S:Sta} {q r M N:Nat} (h:Led S q r M N) (tok cur:Nat) (hM:1<=M):Led (close S (q+1) tok cur) (q+1) (r+(if tok=0 then 0 else cur / tok)) M (N+2):=by
 rw[close_eq h];exact(h.next (x:=if tok=0 then 0 else cur / tok) hM).free (.inl (Nat.lt_succ_self q))
theorem free_cc (S:Sta) (p:Nat):(F1.free S p).c=S.c:=by
 unfold F1.free
 split
 · rfl
 · split<;>rfl
theorem close_cc (S:Sta) (p t g:Nat):(F1.close S p t g).c=S.c:=by unfold F1.close;rw[free_cc]
def Held (S:Sta) (q p r:Nat):Prop:=(hist S p).1=r/\(if p=q then 2 else 1)<=(hist S p).2
theorem Held.close {S:Sta} {q r M N p x:Nat} (h:Held S q p x) (hl:Led S q r M N) (hp:p<=q) (tok cur:Nat):Held (F1.close S (q+1) tok cur) (q+1) p x:=by
 rw[close_eq hl];unfold Held at h ⊢;have e1:(if p=q+1 then 2 else 1)=1:=if_neg (by omega);have e2:∀T:Nat × Nat,(if p=q+1 then T else hist S p)=hist S p:=fun T=>if_neg (by omega);rw[e1,hist_free,hist_put,hist_put,e2];by_cases e:p=q
 · subst e;have e3:∀T:Nat × Nat,(if p=p+1 then T else hist S p)=hist S p:=fun T=>if_neg (by omega);rw[if_pos rfl]at h;rw[if_pos rfl,e3,if_neg (by omega),if_neg (by omega)];exact⟨h.1,by show 1<=(hist S p).2-1;omega⟩
 · rw[if_neg e]at h;rw[if_neg e];exact h
theorem Held.free {S:Sta} {q p x:Nat} (h:Held S q p x) (hp:p<=q):p<q\/(p=q/\2<=(hist S q).2):=by
 rcases Nat.lt_or_ge p q with h1|h1
 · exact .inl h1
 · have e:p=q:=by omega
   subst e;have:=h.2;rw[if_pos rfl]at this;exact .inr ⟨rfl,this⟩
theorem Held.refer {S:Sta} {q p x y:Nat} (h:Held S q p x):Held (F1.refer S y) q p x:=by
 unfold Held at h ⊢;rw[hist_refer];by_cases e:p=y
 · subst e;rw[if_pos rfl];exact⟨h.1,by show _<=(hist S p).2+1;omega⟩
 · rw[if_neg e];exact h
theorem Led.held {S:Sta} {q r M N:Nat} (h:Led S q r M N):Held (F1.refer S q) q q r:=by
 unfold Held;rw[hist_refer,if_pos rfl,if_pos rfl];exact⟨h.last.1,by show 2<=(hist S q).2+1;have:=h.last.2;omega⟩
end F1
namespace Gz
open Go Go.RowKit Go.Proofs Gl
theorem put2 {W:World} {b:Nat} {t:TypeId} {u0 u1:Value} (h:W.heap[b]?=some (.cells #[u0,u1] t (0,0))) (v0 v1:Value):
 W.cell? ⟨b,0,none⟩=some u0/\W.frozen? ⟨b,0,none⟩=false/\(W.setCell ⟨b,0,none⟩ v0).cell? ⟨b,1,none⟩=some u1/\(W.setCell ⟨b,0,none⟩ v0).frozen? ⟨b,1,none⟩=false /\
 ((W.setCell ⟨b,0,none⟩ v0).setCell ⟨b,1,none⟩ v1).heap[b]?=some (.cells #[v0,v1] t (0,0))/\Upd (fun c=>c=b) W ((W.setCell ⟨b,0,none⟩ v0).setCell ⟨b,1,none⟩ v1):=by
 have h1:(W.setCell ⟨b,0,none⟩ v0).heap[b]?=some (.cells #[v0,u1] t (0,0)):=by rw[zac h];rfl
 have h2:((W.setCell ⟨b,0,none⟩ v0).setCell ⟨b,1,none⟩ v1).heap[b]?=some (.cells #[v0,v1] t (0,0)):=by rw[zac h1];rfl
 exact⟨zaa h 0 _ rfl,zad h 0,zaa h1 1 _ rfl,zad h1 1,h2,(Upd.setCell (S:=fun c=>c=b) W _ rfl).trans (Upd.setCell _ _ rfl)⟩
def HistM (F:Nat->Prop) (bs bm:Nat) (w:World) (L:List Ent) (r c:Nat) (e:Ending) (w':World):Prop:=∃R m d,e=.returned (.agg #[.slice R m d,.int .u64 (c:Int)])/\LN (NB w) w' R m d r/\SFm F bs bm w' L/\Upd (fun b=>b=bs) w w'
def HistF (F:Nat->Prop) (bs:Nat) (w:World) (L:List Ent) (r c:Nat) (e:Ending) (w':World):Prop:=∃R m d,e=.returned (.agg #[.slice R m d,.int .u64 (c:Int)])/\LN (NB w) w' R m d r/\SF F bs w' L/\Upd (fun b=>b=bs) w w'
theorem SFm.upd_off {F:Nat->Prop} {T:Nat->Prop} {bs bm:Nat} {w w':World} {L:List Ent} (h:SFm F bs bm w L) (hu:Upd T w w') (h1:∀b,F b->¬T b) (h2:¬T bs):SFm F bs bm w' L:=by
 obtain⟨base,D,A,n,c,vs,ps,g1,g2,g3,g4,g5,g6⟩:=h;exact⟨base,D,A,n,c,vs,ps,g1.upd hu h2,⟨g2.toMapRaw.upd hu (fun b hb=>h1 b (g3 b hb)),g2.good,g2.few⟩,g3,fun b hb=>⟨zqL (g4 b hb).1 hu.size,(g4 b hb).2⟩,zT g5 hu.size,g6⟩
theorem SF.upd_off {F:Nat->Prop} {T:Nat->Prop} {bs:Nat} {w w':World} {L:List Ent} (h:SF F bs w L) (hu:Upd T w w') (h1:∀b,F b->¬T b) (h2:¬T bs):SF F bs w' L:=let ⟨_,hm⟩:=h.m;(hm.upd_off hu h1 h2).sf
theorem history_m {F:Nat->Prop} {bs bm p:Nat} {w:World} {S:F1.Sta} (hS:Okay S) (hp:p<18446744073709551616) (h:SFm F bs bm w (F1.ents S)):
 Calls Tryz.prog 58 #[.pointer (some ⟨bs,0,none⟩),.int .u64 16,.int .u64 (p:Int)] w (HistM F bs bm w (F1.ents S) (F1.hist S p).1 (F1.hist S p).2):=by
 obtain⟨W1,a6⟩:=zE (w.alloc (.cells #[.slice none 0 0,.int .u64 0] 120));have n1:New w W1:=by rw[a6];exact zU _ _ _
 have b1:=zX w (.cells #[.slice none 0 0,.int .u64 0] 120);rw[<-a6]at b1;have s1:W1.heap.size=w.heap.size+1:=by rw[a6];exact zab _ _
 have e7:=h.sf.bs_lt;have hF:∀b,F b->b<w.heap.size:=fun b hb=>(h.sf.lt hb).1;obtain⟨r,hr⟩:=zE ((F1.hist S p).1);obtain⟨c,hc⟩:=zE ((F1.hist S p).2);have a5:∀w2 A ck,New W1 w2->By w2 A 18 ck (F1.hk p) → (∀a,A=some a->W1.heap.size<=a.block)->_:=fun w2 A ck hn hk b7=>get_hist hS hp ((h.new n1).new hn) hk (fun a ha _ e=>by have:=b7 a ha;omega);rw[<-hr,<-hc]at a5;rw[<-hr,<-hc];have b8:=keyH (w:=W1) p hp;have HK:=zqH b8;have HG:=zqH a5;have N1:=zqH n1;have B1:=zqH b1;have S1:=zqH s1;have HF:=zqH hF;clear b8 a5 n1 b1 s1 hS h hr hc hF hp;go_enter Tryz.func58,Tryz.ntmps58
 go_upto_region 1 with fail
 rw[<-a6];clear a6
 go_upto_region 2 with(first
  | (go_at_call 78;refine HK.out.mono ?_;rintro e w2 ⟨A,ck,rfl,hk,d5,b7⟩;have b9:=HG.out w2 A ck d5 hk b7;have N2:=zqH d5;clear HK hk d5 b7)
  | (go_at_call 111;refine b9.mono ?_;rintro e w3 ⟨A2,n2,c2,bb,rfl,a7,a3,c6⟩;have H3:=zqH (zN a7 a3);have c5:=zqH (c6 w3 (Upd.refl _ _));clear b9 a7 a3 c6))
 go_upto_region 3 with(go_at_call 112;refine c5.out.mono ?_;rintro e w4 ⟨er,R,m,d,rfl,a8,a2⟩;have H4:=zqH (zN a8 a2);clear c5 a8 a2)
 obtain⟨a7,a3⟩:=H3.out;obtain⟨a8,a2⟩:=H4.out;obtain⟨W5,b6⟩:=zE (w4.alloc (.cells #[.slice R m d,.int .u64 (c:Int)] 120));rw[<-b6];have n5:New w4 W5:=by rw[b6];exact zU _ _ _
 have b5:=zX w4 (.cells #[.slice R m d,.int .u64 (c:Int)] 120);rw[<-b6]at b5;have f6:=S1.out;have f7:=N2.out.size;have f8:=a3.size;have f9:=a2.size;have k1:W5.heap[w.heap.size]?=some (.cells #[.slice none 0 0,.int .u64 0] 120 (0,0)):=((a2.trans n5).block _ (by omega) id).trans ((a3.block _ (by omega) (by omega)).trans ((N2.out.block _ (by omega) id).trans B1.out));have l0:W5.cell? ⟨w4.heap.size,0,none⟩=some (.slice R m d):=zaa b5 0 _ rfl;have l1:W5.cell? ⟨w4.heap.size,1,none⟩=some (.int .u64 (c:Int)):=zaa b5 1 _ rfl;obtain⟨c0,z0,c1,z1,hh,a1⟩:=put2 k1 (.slice R m d) (.int .u64 (c:Int));have q0:((W5.setCell ⟨w.heap.size,0,none⟩ (.slice R m d)).setCell ⟨w.heap.size,1,none⟩ (.int .u64 (c:Int))).cell? ⟨w.heap.size,0,none⟩=some (.slice R m d):=zaa hh 0 _ rfl;have q1:((W5.setCell ⟨w.heap.size,0,none⟩ (.slice R m d)).setCell ⟨w.heap.size,1,none⟩ (.int .u64 (c:Int))).cell? ⟨w.heap.size,1,none⟩=some (.int .u64 (c:Int)):=zaa hh 1 _ rfl;have a9:Upd (fun b=>b=bs) w W5:=((N1.out.trans N2.out).mono (fun _ _ h=>h.elim)).trans (a3.trans ((a2.trans n5).mono (fun _ _ h=>h.elim)));have b0:=a8.new n5;have a4:=a7.new (a2.trans n5);have d6:=zqH (zN a1 (zN a9 (zN b0 a4)));have QQ:=zqH (zN q0 q1);clear b6 n5 b5 k1 hh a1 a9 b0 a4 q0 q1 a7 a3 a8 a2;go_wp2;obtain⟨q0,q1⟩:=QQ.out;obtain⟨a1,a9,b0,a4⟩:=d6.out;refine bodyPost_ret (by simp[results,Tryz.results58,go_sem,q0,q1];try rfl) rfl ?_
 refine⟨R,m,d,rfl,?_,a4.upd_off a1 (fun b hb e=>by have:=HF.out b hb;have e:b=w.heap.size:=e;omega) (by omega),a9.then a1 (fun b hb e=>by have e:b=w.heap.size:=e;omega)⟩;exact(b0.upd a1 (fun b hb e=>by have e:b=w.heap.size:=e;have hb:w3.heap.size<=b:=hb;omega)).mono (fun b _ hb=>by have hb:w3.heap.size<=b:=hb;show w.heap.size<=b;omega)
theorem history_c {F:Nat->Prop} {bs p:Nat} {w:World} {S:F1.Sta} (hS:Okay S) (hp:p<18446744073709551616) (h:SF F bs w (F1.ents S)):
 Calls Tryz.prog 58 #[.pointer (some ⟨bs,0,none⟩),.int .u64 16,.int .u64 (p:Int)] w (HistF F bs w (F1.ents S) (F1.hist S p).1 (F1.hist S p).2):=
 let ⟨_,hm⟩:=h.m;(history_m hS hp hm).mono fun e w' ⟨R,m,d,a,b,c,u⟩=>⟨R,m,d,a,b,c.sf,u⟩
def StoR (F:Nat->Prop) (bs:Nat) (w:World) (L:List Ent) (e:Ending) (w':World):Prop:=e=.returned (.tuple #[])/\∃F',SF F' bs w' L/\Step F F' bs w w'
theorem set_hist {F:Nat->Prop} {bs p r c:Nat} {w:World} {S:F1.Sta} (hS:Okay S) (hp:p<18446744073709551616) (hr:F1.nb r<=255) (h:SF F bs w (F1.ents S)) {A A2:Option Addr} {ck n2 c2:Nat} (hk:By w A 18 ck (F1.hk p)) (hkb:∀a,A=some a->a.block≠bs) (hv:By w A2 n2 c2 (F1.encH r c)) (hvb:∀a,A2=some a->a.block≠bs):
 Calls Tryz.prog 77 #[.pointer (some ⟨bs,0,none⟩),.slice A 18 ck,.slice A2 n2 c2] w fun e w'=>(∃v,e=.returned v)/\∃F',SF F' bs w' (F1.ents { S with h:=F1.putR S.h (p,r,c) })/\Step F F' bs w w':=by
 have hl:=hv.len;rw[encH_length]at hl;have:=kset_f h hS.len hk (fun a ha _=>hkb a ha) hv (fun a ha _=>hvb a ha) (by omega) (by omega) (by omega)
 rwa [F1.put_h hS.fine hp]at this
theorem refer_c {F:Nat->Prop} {bs p:Nat} {w:World} {S:F1.Sta} (hS:Okay S) (hp:p<18446744073709551616) (h:SF F bs w (F1.ents S)) (hc1:(F1.hist S p).2+1<18446744073709551616):
 Calls Tryz.prog 47 #[.pointer (some ⟨bs,0,none⟩),.int .u64 16,.int .u64 (p:Int)] w (StoR F bs w (F1.ents (F1.refer S p))):=by
 have hh:=history_c hS hp h;have a6:=(hS.hist p).1;have g9:=h.bs_lt;have hF:∀b,F b->b<w.heap.size:=fun b hb=>(h.lt hb).1;unfold F1.refer;obtain⟨r,hr⟩:=zE ((F1.hist S p).1);obtain⟨c,hc⟩:=zE ((F1.hist S p).2);rw[<-hr,<-hc]at hh ⊢;rw[<-hr]at a6;rw[<-hc]at hc1;have a2:∀W A ck A2 n2 c2,SF F bs W (F1.ents S)->By W A 18 ck (F1.hk p) → (∀a,A=some a->a.block≠bs)->By W A2 n2 c2 (F1.encH r (c+1)) → (∀a,A2=some a->a.block≠bs)->_:=fun W A ck A2 n2 c2 h1 h2 h3 h4 h5=>set_hist hS hp a6 h1 h2 h3 h4 h5;have HH:=zqH hh;have d5:=zqH a2;have d6:=zqH a6;have HF:=zqH hF;have HP:=zqH hp;have f4:=zqH hc1;clear hh a2 a6 hr hc hS h hF hp;go_enter Tryz.func47,Tryz.ntmps47
 go_upto_region 1 with(go_at_call 58;refine HH.out.mono ?_;rintro e w1 ⟨R,m,d,rfl,a4,a1,a3⟩;have H1:=zqH (zN a4 (zN a1 a3));clear HH a4 a1 a3)
 obtain⟨a4,a1,a3⟩:=H1.out;obtain⟨W2,b0⟩:=zE (w1.alloc (.cells #[.slice R m d,.int .u64 (c:Int)] 120));rw[<-b0];have n2:New w1 W2:=by rw[b0];exact zU _ _ _
 have b2:=zX w1 (.cells #[.slice R m d,.int .u64 (c:Int)] 120);rw[<-b0]at b2;have l1:W2.cell? ⟨w1.heap.size,1,none⟩=some (.int .u64 (c:Int)):=zaa b2 1 _ rfl;have z1:=zad b2 1;have N2:=zqH n2;have B2:=zqH b2;clear b0 n2 b2 a4 a1 a3
 go_upto_region 2 with fail
 obtain⟨y,hy⟩:=zE (c+1);have d7:(c:Int)+1=(y:Int):=by rw[hy];push_cast;rfl
 rw[d7];have f5:y<18446744073709551616:=by have:=f4.out;omega
 obtain⟨W3,b5⟩:=zE (W2.setCell ⟨w1.heap.size,1,none⟩ (.int .u64 (y:Int)));rw[<-b5];obtain⟨a4,a1,a3⟩:=H1.out;have h9:=a3.size;have i0:=N2.out.size;have b3:W3.heap[w1.heap.size]?=some (.cells #[.slice R m d,.int .u64 (y:Int)] 120 (0,0)):=by rw[b5,zac B2.out];rfl
 have u3:Upd (fun b=>b=w1.heap.size) W2 W3:=by rw[b5];exact Upd.setCell W2 _ rfl
 have b6:SF F bs W3 (F1.ents S):=(a1.new N2.out).upd_off u3 (fun b hb e=>by have:=HF.out b hb;have e:b=w1.heap.size:=e;omega) (by omega);have d9:LN (Off F bs) W3 R m d r:=((a4.mono (Q':=fun b=>w.heap.size<=b/\b<w1.heap.size) (fun b hb hq=>⟨hq,hb⟩)).new N2.out |>.upd u3 (fun b hb e=>by have e:b=w1.heap.size:=e;omega)).mono (fun b _ hb=>⟨fun hf=>by have:=HF.out b hf;omega,fun e=>by omega⟩);have e2:Upd (fun b=>b=bs) w W3:=(a3.trans (N2.out.mono (fun _ _ h=>h.elim))).then u3 (fun b hb e=>by have e:b=w1.heap.size:=e;omega);have c0:W3.cell? ⟨w1.heap.size,0,none⟩=some (.slice R m d):=zaa b3 0 _ rfl;have c1:W3.cell? ⟨w1.heap.size,1,none⟩=some (.int .u64 (y:Int)):=zaa b3 1 _ rfl;have b8:=(zqA.1 b3).1;have a8:∀W T,Upd T W3 W->¬T w1.heap.size->W.cell? ⟨w1.heap.size,0,none⟩=some (.slice R m d)/\W.cell? ⟨w1.heap.size,1,none⟩=some (.int .u64 (y:Int)):=fun W T hu hT=>
  ⟨(hu.cell (a:=⟨w1.heap.size,0,none⟩) b8 hT).trans c0,(hu.cell (a:=⟨w1.heap.size,1,none⟩) b8 hT).trans c1⟩
 have b9:=zqH a8;have H3:=zqH (zN b6 (zN d9 e2));have HY:=zqH hy;have e3:=zqH (show bs<W3.heap.size by have:=u3.size;omega);have e4:=zqH (show ¬F w1.heap.size/\¬w1.heap.size=bs from⟨fun hf=>by have:=HF.out _ hf;omega,by omega⟩);have f7:=zqH f5;clear a8 b6 d9 e2 u3 b3 b8 b5 hy d7 l1 z1 a4 a1 a3
 go_region_held (fun w'=>w'.cell? ⟨w1.heap.size,0,none⟩=some (.slice R m d)/\w'.cell? ⟨w1.heap.size,1,none⟩=some (.int .u64 (y:Int))) (go_keep) (first
  | (go_at_call 78
     refine(keyH p HP.out).mono ?_
     rintro e W4 ⟨A,ck,rfl,hk,e7,e8⟩;have n4:New W3 W4:=(Upd.refl _ W3).drew.trans e7;obtain⟨d0,d1⟩:=b9.out _ _ n4 id;have H4:=zqH (zN hk (zN n4 (fun(a:Addr) (ha:A=some a)=>(by have h1:=e8 a ha;have h2:=e3.out;have h3:W3.drew.heap.size=W3.heap.size:=rfl;omega:a.block≠bs))));clear hk e7 e8 n4)
  | (go_at_call 79
     refine(puthist_c ((H3.out.2.1.lq).new H4.out.2.1) d6.out f7.out).mono ?_
     rintro e W5 ⟨A2,n2,c2,rfl,hv,c5,b7⟩;have n5:New W3 W5:=H4.out.2.1.trans c5;obtain⟨e0,e1⟩:=b9.out _ _ n5 id;have H5:=zqH (zN hv (zN n5 (zN (H4.out.1.new c5) (fun(a:Addr) (ha:A2=some a)=>(by have h1:=b7 a ha;have h2:=e3.out;have h3:=H4.out.2.1.size;omega:a.block≠bs)))));clear hv c5 b7 n5)
  | (go_at_call 77
     have a2:=d5.out W5 A ck A2 n2 c2 (H3.out.1.new H5.out.2.1) H5.out.2.2.1 H4.out.2.2 (by rw[<-HY.out];exact H5.out.1) H5.out.2.2.2;refine a2.mono ?_
     rintro e W6 ⟨⟨_,rfl⟩,F',a7,a9⟩;have u6:Upd (fun b=>F b\/b=bs) W3 W6:=(H5.out.2.1.mono (fun _ _ h=>h.elim)).trans a9.upd;obtain⟨f0,f1⟩:=b9.out _ _ u6 (fun h=>h.elim e4.out.1 e4.out.2);have H6:=zqH (zN a7 a9);clear a2 a7 a9 u6))
 all_goals go_wp2
 all_goals go_end0
 obtain⟨a7,a9⟩:=H6.out;refine⟨rfl,F',a7,?_⟩;have s1:Step F F bs w W5:=⟨fun b hb=>.inl hb,(H3.out.2.2.mono (fun b _ e=>.inr e)).trans (H5.out.2.1.mono (fun _ _ h=>h.elim))⟩
 exact s1.trans a9
theorem put3 {W:World} {b:Nat} {t:TypeId} {u0 u1 u2:Value} (h:W.heap[b]?=some (.cells #[u0,u1,u2] t (0,0))) (v0 v1 v2:Value):
 W.cell? ⟨b,0,none⟩=some u0 /\
 W.frozen? ⟨b,0,none⟩=false /\
 (W.setCell ⟨b,0,none⟩ v0).cell? ⟨b,1,none⟩=some u1 /\
 (W.setCell ⟨b,0,none⟩ v0).frozen? ⟨b,1,none⟩=false /\
 ((W.setCell ⟨b,0,none⟩ v0).setCell ⟨b,1,none⟩ v1).cell? ⟨b,2,none⟩=some u2 /\
 ((W.setCell ⟨b,0,none⟩ v0).setCell ⟨b,1,none⟩ v1).frozen? ⟨b,2,none⟩=false /\
 (((W.setCell ⟨b,0,none⟩ v0).setCell ⟨b,1,none⟩ v1).setCell ⟨b,2,none⟩ v2).heap[b]?=some (.cells #[v0,v1,v2] t (0,0)) /\
 Upd (fun c=>c=b) W (((W.setCell ⟨b,0,none⟩ v0).setCell ⟨b,1,none⟩ v1).setCell ⟨b,2,none⟩ v2):=by
 have h1:(W.setCell ⟨b,0,none⟩ v0).heap[b]?=some (.cells #[v0,u1,u2] t (0,0)):=by rw[zac h];rfl
 have h2:((W.setCell ⟨b,0,none⟩ v0).setCell ⟨b,1,none⟩ v1).heap[b]?=some (.cells #[v0,v1,u2] t (0,0)):=by rw[zac h1];rfl
 have h3:(((W.setCell ⟨b,0,none⟩ v0).setCell ⟨b,1,none⟩ v1).setCell ⟨b,2,none⟩ v2).heap[b]?=some (.cells #[v0,v1,v2] t (0,0)):=by rw[zac h2];rfl
 exact⟨zaa h 0 _ rfl,zad h 0,zaa h1 1 _ rfl,zad h1 1,zaa h2 2 _ rfl,zad h2 2,h3,((Upd.setCell (S:=fun c=>c=b) W _ rfl).trans (Upd.setCell _ _ rfl)).trans (Upd.setCell _ _ rfl)⟩
theorem put10 {W:World} {b:Nat} {t:TypeId} {u0 u1 u2 u3 u4 u5 u6 u7 u8 u9:Value} (h:W.heap[b]?=some (.cells #[u0,u1,u2,u3,u4,u5,u6,u7,u8,u9] t (0,0))) (v0 v1 v2 v3 v4 v5 v6 v7 v8 v9:Value):
 W.cell? ⟨b,0,none⟩=some u0 /\
 W.frozen? ⟨b,0,none⟩=false /\
 (W.setCell ⟨b,0,none⟩ v0).cell? ⟨b,1,none⟩=some u1 /\
 (W.setCell ⟨b,0,none⟩ v0).frozen? ⟨b,1,none⟩=false /\
 ((W.setCell ⟨b,0,none⟩ v0).setCell ⟨b,1,none⟩ v1).cell? ⟨b,2,none⟩=some u2 /\
 ((W.setCell ⟨b,0,none⟩ v0).setCell ⟨b,1,none⟩ v1).frozen? ⟨b,2,none⟩=false /\
 (((W.setCell ⟨b,0,none⟩ v0).setCell ⟨b,1,none⟩ v1).setCell ⟨b,2,none⟩ v2).cell? ⟨b,3,none⟩=some u3 /\
 (((W.setCell ⟨b,0,none⟩ v0).setCell ⟨b,1,none⟩ v1).setCell ⟨b,2,none⟩ v2).frozen? ⟨b,3,none⟩=false /\
 ((((W.setCell ⟨b,0,none⟩ v0).setCell ⟨b,1,none⟩ v1).setCell ⟨b,2,none⟩ v2).setCell ⟨b,3,none⟩ v3).cell? ⟨b,4,none⟩=some u4 /\
 ((((W.setCell ⟨b,0,none⟩ v0).setCell ⟨b,1,none⟩ v1).setCell ⟨b,2,none⟩ v2).setCell ⟨b,3,none⟩ v3).frozen? ⟨b,4,none⟩=false /\
 (((((W.setCell ⟨b,0,none⟩ v0).setCell ⟨b,1,none⟩ v1).setCell ⟨b,2,none⟩ v2).setCell ⟨b,3,none⟩ v3).setCell ⟨b,4,none⟩ v4).cell? ⟨b,5,none⟩=some u5 /\
 (((((W.setCell ⟨b,0,none⟩ v0).setCell ⟨b,1,none⟩ v1).setCell ⟨b,2,none⟩ v2).setCell ⟨b,3,none⟩ v3).setCell ⟨b,4,none⟩ v4).frozen? ⟨b,5,none⟩=false /\
 ((((((W.setCell ⟨b,0,none⟩ v0).setCell ⟨b,1,none⟩ v1).setCell ⟨b,2,none⟩ v2).setCell ⟨b,3,none⟩ v3).setCell ⟨b,4,none⟩ v4).setCell ⟨b,5,none⟩ v5).cell? ⟨b,6,none⟩=some u6 /\
 ((((((W.setCell ⟨b,0,none⟩ v0).setCell ⟨b,1,none⟩ v1).setCell ⟨b,2,none⟩ v2).setCell ⟨b,3,none⟩ v3).setCell ⟨b,4,none⟩ v4).setCell ⟨b,5,none⟩ v5).frozen? ⟨b,6,none⟩=false /\
 (((((((W.setCell ⟨b,0,none⟩ v0).setCell ⟨b,1,none⟩ v1).setCell ⟨b,2,none⟩ v2).setCell ⟨b,3,none⟩ v3).setCell ⟨b,4,none⟩ v4).setCell ⟨b,5,none⟩ v5).setCell ⟨b,6,none⟩ v6).cell? ⟨b,7,none⟩=some u7 /\
 (((((((W.setCell ⟨b,0,none⟩ v0).setCell ⟨b,1,none⟩ v1).setCell ⟨b,2,none⟩ v2).setCell ⟨b,3,none⟩ v3).setCell ⟨b,4,none⟩ v4).setCell ⟨b,5,none⟩ v5).setCell ⟨b,6,none⟩ v6).frozen? ⟨b,7,none⟩=false /\
 ((((((((W.setCell ⟨b,0,none⟩ v0).setCell ⟨b,1,none⟩ v1).setCell ⟨b,2,none⟩ v2).setCell ⟨b,3,none⟩ v3).setCell ⟨b,4,none⟩ v4).setCell ⟨b,5,none⟩ v5).setCell ⟨b,6,none⟩ v6).setCell ⟨b,7,none⟩ v7).cell? ⟨b,8,none⟩=some u8 /\
 ((((((((W.setCell ⟨b,0,none⟩ v0).setCell ⟨b,1,none⟩ v1).setCell ⟨b,2,none⟩ v2).setCell ⟨b,3,none⟩ v3).setCell ⟨b,4,none⟩ v4).setCell ⟨b,5,none⟩ v5).setCell ⟨b,6,none⟩ v6).setCell ⟨b,7,none⟩ v7).frozen? ⟨b,8,none⟩=false /\
 (((((((((W.setCell ⟨b,0,none⟩ v0).setCell ⟨b,1,none⟩ v1).setCell ⟨b,2,none⟩ v2).setCell ⟨b,3,none⟩ v3).setCell ⟨b,4,none⟩ v4).setCell ⟨b,5,none⟩ v5).setCell ⟨b,6,none⟩ v6).setCell ⟨b,7,none⟩ v7).setCell ⟨b,8,none⟩ v8).cell? ⟨b,9,none⟩=some u9 /\
 (((((((((W.setCell ⟨b,0,none⟩ v0).setCell ⟨b,1,none⟩ v1).setCell ⟨b,2,none⟩ v2).setCell ⟨b,3,none⟩ v3).setCell ⟨b,4,none⟩ v4).setCell ⟨b,5,none⟩ v5).setCell ⟨b,6,none⟩ v6).setCell ⟨b,7,none⟩ v7).setCell ⟨b,8,none⟩ v8).frozen? ⟨b,9,none⟩=false /\
 ((((((((((W.setCell ⟨b,0,none⟩ v0).setCell ⟨b,1,none⟩ v1).setCell ⟨b,2,none⟩ v2).setCell ⟨b,3,none⟩ v3).setCell ⟨b,4,none⟩ v4).setCell ⟨b,5,none⟩ v5).setCell ⟨b,6,none⟩ v6).setCell ⟨b,7,none⟩ v7).setCell ⟨b,8,none⟩ v8).setCell ⟨b,9,none⟩ v9).heap[b]?=some (.cells #[v0,v1,v2,v3,v4,v5,v6,v7,v8,v9] t (0,0)) /\
 Upd (fun c=>c=b) W ((((((((((W.setCell ⟨b,0,none⟩ v0).setCell ⟨b,1,none⟩ v1).setCell ⟨b,2,none⟩ v2).setCell ⟨b,3,none⟩ v3).setCell ⟨b,4,none⟩ v4).setCell ⟨b,5,none⟩ v5).setCell ⟨b,6,none⟩ v6).setCell ⟨b,7,none⟩ v7).setCell ⟨b,8,none⟩ v8).setCell ⟨b,9,none⟩ v9):=by
 have h1:(W.setCell ⟨b,0,none⟩ v0).heap[b]?=some (.cells #[v0,u1,u2,u3,u4,u5,u6,u7,u8,u9] t (0,0)):=by rw[zac h];rfl
 have h2:((W.setCell ⟨b,0,none⟩ v0).setCell ⟨b,1,none⟩ v1).heap[b]?=some (.cells #[v0,v1,u2,u3,u4,u5,u6,u7,u8,u9] t (0,0)):=by rw[zac h1];rfl
 have h3:(((W.setCell ⟨b,0,none⟩ v0).setCell ⟨b,1,none⟩ v1).setCell ⟨b,2,none⟩ v2).heap[b]?=some (.cells #[v0,v1,v2,u3,u4,u5,u6,u7,u8,u9] t (0,0)):=by rw[zac h2];rfl
 have h4:((((W.setCell ⟨b,0,none⟩ v0).setCell ⟨b,1,none⟩ v1).setCell ⟨b,2,none⟩ v2).setCell ⟨b,3,none⟩ v3).heap[b]?=some (.cells #[v0,v1,v2,v3,u4,u5,u6,u7,u8,u9] t (0,0)):=by rw[zac h3];rfl
 have h5:(((((W.setCell ⟨b,0,none⟩ v0).setCell ⟨b,1,none⟩ v1).setCell ⟨b,2,none⟩ v2).setCell ⟨b,3,none⟩ v3).setCell ⟨b,4,none⟩ v4).heap[b]?=some (.cells #[v0,v1,v2,v3,v4,u5,u6,u7,u8,u9] t (0,0)):=by rw[zac h4];rfl
 have h6:((((((W.setCell ⟨b,0,none⟩ v0).setCell ⟨b,1,none⟩ v1).setCell ⟨b,2,none⟩ v2).setCell ⟨b,3,none⟩ v3).setCell ⟨b,4,none⟩ v4).setCell ⟨b,5,none⟩ v5).heap[b]?=some (.cells #[v0,v1,v2,v3,v4,v5,u6,u7,u8,u9] t (0,0)):=by rw[zac h5];rfl
 have h7:(((((((W.setCell ⟨b,0,none⟩ v0).setCell ⟨b,1,none⟩ v1).setCell ⟨b,2,none⟩ v2).setCell ⟨b,3,none⟩ v3).setCell ⟨b,4,none⟩ v4).setCell ⟨b,5,none⟩ v5).setCell ⟨b,6,none⟩ v6).heap[b]?=some (.cells #[v0,v1,v2,v3,v4,v5,v6,u7,u8,u9] t (0,0)):=by rw[zac h6];rfl
 have h8:((((((((W.setCell ⟨b,0,none⟩ v0).setCell ⟨b,1,none⟩ v1).setCell ⟨b,2,none⟩ v2).setCell ⟨b,3,none⟩ v3).setCell ⟨b,4,none⟩ v4).setCell ⟨b,5,none⟩ v5).setCell ⟨b,6,none⟩ v6).setCell ⟨b,7,none⟩ v7).heap[b]?=some (.cells #[v0,v1,v2,v3,v4,v5,v6,v7,u8,u9] t (0,0)):=by rw[zac h7];rfl
 have h9:(((((((((W.setCell ⟨b,0,none⟩ v0).setCell ⟨b,1,none⟩ v1).setCell ⟨b,2,none⟩ v2).setCell ⟨b,3,none⟩ v3).setCell ⟨b,4,none⟩ v4).setCell ⟨b,5,none⟩ v5).setCell ⟨b,6,none⟩ v6).setCell ⟨b,7,none⟩ v7).setCell ⟨b,8,none⟩ v8).heap[b]?=some (.cells #[v0,v1,v2,v3,v4,v5,v6,v7,v8,u9] t (0,0)):=by rw[zac h8];rfl
 have b0:((((((((((W.setCell ⟨b,0,none⟩ v0).setCell ⟨b,1,none⟩ v1).setCell ⟨b,2,none⟩ v2).setCell ⟨b,3,none⟩ v3).setCell ⟨b,4,none⟩ v4).setCell ⟨b,5,none⟩ v5).setCell ⟨b,6,none⟩ v6).setCell ⟨b,7,none⟩ v7).setCell ⟨b,8,none⟩ v8).setCell ⟨b,9,none⟩ v9).heap[b]?=some (.cells #[v0,v1,v2,v3,v4,v5,v6,v7,v8,v9] t (0,0)):=by rw[zac h9];rfl
 exact⟨zaa h 0 _ rfl,zad h 0,zaa h1 1 _ rfl,zad h1 1,zaa h2 2 _ rfl,zad h2 2,zaa h3 3 _ rfl,zad h3 3,zaa h4 4 _ rfl,zad h4 4,zaa h5 5 _ rfl,zad h5 5,zaa h6 6 _ rfl,zad h6 6,zaa h7 7 _ rfl,zad h7 7,zaa h8 8 _ rfl,zad h8 8,zaa h9 9 _ rfl,zad h9 9,b0,(((((((((Upd.setCell (S:=fun c=>c=b) W _ rfl).trans (Upd.setCell _ _ rfl)).trans (Upd.setCell _ _ rfl)).trans (Upd.setCell _ _ rfl)).trans (Upd.setCell _ _ rfl)).trans (Upd.setCell _ _ rfl)).trans (Upd.setCell _ _ rfl)).trans (Upd.setCell _ _ rfl)).trans (Upd.setCell _ _ rfl)).trans (Upd.setCell _ _ rfl)⟩
end Gz
namespace Gz
open Go Go.RowKit Go.Proofs Gl Go.Shelf
attribute [local go_sem] Oper.semAt_some
theorem box3 (w:World) (v v' v'':Value) (t t' t'':TypeId):∃W,W=((w.alloc (.cells #[v] t)).alloc (.cells #[v'] t')).alloc (.cells #[v''] t'')/\New w W/\W.heap.size=w.heap.size+1+1+1/\W.heap[w.heap.size]?=some (.cells #[v] t (0,0))/\W.heap[w.heap.size+1]?=some (.cells #[v'] t' (0,0))/\W.heap[w.heap.size+1+1]?=some (.cells #[v''] t'' (0,0)):=by
 have h:=alloc3' (w:=w) (W1:=w.alloc (.cells #[v] t)) (W2:=(w.alloc (.cells #[v] t)).alloc (.cells #[v'] t')) (W3:=((w.alloc (.cells #[v] t)).alloc (.cells #[v'] t')).alloc (.cells #[v''] t'')) rfl rfl rfl;exact⟨_,rfl,h⟩
theorem walkft_c {w:World} {bm nf cf nt ct:Nat} {Af At:Option Addr} {fk tk:Bs} (hf:By w Af nf cf fk) (ht:By w At nt ct tk) (hnf:nf<=1073741824) (hnt:nt<=1073741824):
 Calls Tryz.prog 57 #[.pointer (some ⟨bm,0,none⟩),.slice Af nf cf,.slice At nt ct] w fun e w'=>∃b1 b2 b3 A1 c1 A2 c2,e=.returned (.func (.func 108) #[] #[.pointer (some ⟨b1,0,none⟩),.pointer (some ⟨b2,0,none⟩),.pointer (some ⟨b3,0,none⟩)])/\New w w'/\(w.heap.size<=b1/\w.heap.size<=b2/\w.heap.size<=b3)/\w'.cell? ⟨b1,0,none⟩=some (.pointer (some ⟨bm,0,none⟩))/\w'.cell? ⟨b2,0,none⟩=some (.slice A1 nf c1)/\w'.cell? ⟨b3,0,none⟩=some (.slice A2 nt c2)/\BV (fun b=>w.heap.size<=b) w' (.slice A1 nf c1) fk/\BV (fun b=>w.heap.size<=b) w' (.slice A2 nt c2) tk:=by
 obtain⟨W,hW,hn,hs,k1,k2,k3⟩:=box3 w (.pointer (some ⟨bm,0,none⟩)) (.slice Af nf cf) (.slice At nt ct) 93 113 113;have c2:=zaa k2 0 _ rfl;have c3:=zaa k3 0 _ rfl;have h1:∀Wx,New W Wx->_:=fun Wx hx=>owned_c (hf.new (hn.trans hx)) hnf;have h2:∀Wx,New W Wx->_:=fun Wx hx=>owned_c (ht.new (hn.trans hx)) hnt;have H1:=zqH h1;have H2:=zqH h2;have HN:=zqH hn;have HS:=zqH hs;have HB:=zqH (zN k1 (zN k2 k3));have hk:∀Wx,New W Wx->Wx.cell? ⟨w.heap.size+1,0,none⟩=some (.slice Af nf cf)/\Wx.cell? ⟨w.heap.size+1+1,0,none⟩=some (.slice At nt ct):=fun Wx hx=>⟨(hx.cell (a:=⟨w.heap.size+1,0,none⟩) (zqB W _ c2) id).trans c2,(hx.cell (a:=⟨w.heap.size+1+1,0,none⟩) (zqB W _ c3) id).trans c3⟩
 have HK:=zqH hk;clear h1 h2 hn hs k1 k2 k3 hf ht hk;go_enter Tryz.func57,Tryz.ntmps57
 go_upto_region 1 with fail
 rw[<-hW];clear hW
 go_region_with (first
  | (go_at_call 107
     refine(H1.out W.drew (Upd.refl _ W).drew).mono ?_
     rintro e wA ⟨A1,c1,rfl,a3,b7⟩;have nA:New W wA:=(Upd.refl _ W).drew.trans b7;obtain⟨f2,f3⟩:=HK.out _ nA;have EA:=zqH (zN (a3.mono (D':=fun b=>W.heap.size<=b) (fun b hb=>hb)) nA);clear a3 b7 nA H1)
  | (go_at_call 107
     refine(H2.out wA EA.out.2).mono ?_
     rintro e wB ⟨A2,c2,rfl,a4,b0⟩;have nB:New W wB:=EA.out.2.trans b0;have a1:=(nB.block _ (zqA.1 HB.out.2.1).1 id).trans HB.out.2.1;have a7:=(nB.block _ (zqA.1 HB.out.2.2).1 id).trans HB.out.2.2;have x2:=zaa a1 0 _ rfl;have y2:=zad a1 0;have x3:=zaa a7 0 _ rfl;have y3:=zad a7 0;have a2:=(zam (w:=wB) (b:=w.heap.size+1) (i:=0) (.slice A1 nf c1) (by omega:w.heap.size+1+1≠w.heap.size+1)).trans a7;have x4:=zaa a2 0 _ rfl;have y4:=zad a2 0;have EB:=zqH (zN (EA.out.1.upd b0 (fun _ _=>id)) (zN (a4.mono (D':=fun b=>W.heap.size<=b) (fun b hb=>zT EA.out.2.size hb)) (zN nB (zN a1 a2))));clear a4 b0 nB a1 a7 a2))
 all_goals
  obtain⟨a3,a4,nB,a1,a2⟩:=EB.out;obtain⟨WF,a5⟩:=zE ((wB.setCell ⟨w.heap.size+1,0,none⟩ (.slice A1 nf c1)).setCell ⟨w.heap.size+1+1,0,none⟩ (.slice A2 nt c2));rw[<-a5];have hu:Upd (fun b=>b=w.heap.size+1\/b=w.heap.size+1+1) wB WF:=by rw[a5];exact(Upd.setCell (S:=fun b=>b=w.heap.size+1\/b=w.heap.size+1+1) wB _ (.inl rfl)).trans (Upd.setCell _ _ (.inr rfl))
  have e2:WF.cell? ⟨w.heap.size+1,0,none⟩=some (.slice A1 nf c1):=by
   have h1:=zac a1 (.slice A1 nf c1) (i:=0);rw[a5];exact zaa ((zam (i:=0) _ (by omega)).trans h1) 0 _ rfl
  have e3:WF.cell? ⟨w.heap.size+1+1,0,none⟩=some (.slice A2 nt c2):=by rw[a5];exact zaa (zac a2 (.slice A2 nt c2) (i:=0)) 0 _ rfl
  have a9:=(nB.block _ (zqA.1 HB.out.1).1 id).trans HB.out.1;have e1:WF.cell? ⟨w.heap.size,0,none⟩=some (.pointer (some ⟨bm,0,none⟩)):=zaa ((hu.block _ (zqA.1 a9).1 (by omega)).trans a9) 0 _ rfl;have hs:=HS.out;have d5:Hid (New w WF/\BV (fun b=>w.heap.size<=b) WF (.slice A1 nf c1) fk/\BV (fun b=>w.heap.size<=b) WF (.slice A2 nt c2) tk/\WF.cell? ⟨w.heap.size,0,none⟩=some (.pointer (some ⟨bm,0,none⟩))/\WF.cell? ⟨w.heap.size+1,0,none⟩=some (.slice A1 nf c1)/\WF.cell? ⟨w.heap.size+1+1,0,none⟩=some (.slice A2 nt c2)):=
   zqH ⟨(HN.out.trans nB).then hu (fun b hb e=>by rcases e with e|e<;>omega),(a3.upd hu (fun b hb e=>by have hb:W.heap.size<=b:=hb;rcases e with e|e<;>omega)).mono (fun b hb=>by have hb:W.heap.size<=b:=hb;show w.heap.size<=b;omega),
    (a4.upd hu (fun b hb e=>by have hb:W.heap.size<=b:=hb;rcases e with e|e<;>omega)).mono (fun b hb=>by have hb:W.heap.size<=b:=hb;show w.heap.size<=b;omega),e1,e2,e3⟩
  clear a5 hu a3 a4 nB a1 a2 a9 e1 e2 e3 hs f2 f3 x2 y2 x3 y3 x4 y4;go_wp2;go_ret;obtain⟨q1,q2,q3,q4,q5,q6⟩:=d5.out;exact⟨w.heap.size,w.heap.size+1,w.heap.size+1+1,A1,c1,A2,c2,rfl,q1,⟨zR _,by omega,by omega⟩,q4,q5,q6,q2,q3⟩
structure CntK (base bm n c b1 b2 b3 nf cf nt ct bs p1 p2:Nat) (D:Nat->Prop) (A Af At:Option Addr) (vs:List Value) (ps:List (List Ent)) (css:List (List Value)) (fk:Bs) (W:World):Prop where
 wlk:WlkK base bm n c b1 b2 b3 nf cf nt ct D A Af At vs ps css fk W
 box1:W.cell? ⟨p1,0,none⟩=some (.pointer (some ⟨bs,0,none⟩))
 box2:W.cell? ⟨p2,0,none⟩=some (.func (.func 108) #[] #[.pointer (some ⟨b1,0,none⟩),.pointer (some ⟨b2,0,none⟩),.pointer (some ⟨b3,0,none⟩)])
 sto:StoB W bs bm
end Gz
namespace Gz
open Go Go.RowKit Go.Proofs Gl Go.Shelf
attribute [local go_sem] Oper.semAt_some
section
variable {base bm n c b1 b2 b3 nf cf nt ct bs p1 p2:Nat} {D T:Nat->Prop} {A Af At:Option Addr} {vs:List Value} {ps:List (List Ent)} {css:List (List Value)} {fk:Bs} {W W':World}
theorem CntK.upd (h:CntK base bm n c b1 b2 b3 nf cf nt ct bs p1 p2 D A Af At vs ps css fk W) (hu:Upd T W W') (hf:∀b,foot bm D A n c vs b->¬T b) (h1:¬T b1) (h2:¬T b2) (h3:¬T b3) (h4:∀a,Af=some a → 0<nf->¬T a.block) (h5:¬T p1) (h6:¬T p2) (h7:StoB W' bs bm):CntK base bm n c b1 b2 b3 nf cf nt ct bs p1 p2 D A Af At vs ps css fk W':=
 ⟨h.wlk.upd hu hf h1 h2 h3 h4,(hu.cell (a:=⟨p1,0,none⟩) (zqB W _ h.box1) h5).trans h.box1,(hu.cell (a:=⟨p2,0,none⟩) (zqB W _ h.box2) h6).trans h.box2,h7⟩
theorem CntK.new (h:CntK base bm n c b1 b2 b3 nf cf nt ct bs p1 p2 D A Af At vs ps css fk W) (hu:New W W'):CntK base bm n c b1 b2 b3 nf cf nt ct bs p1 p2 D A Af At vs ps css fk W':=h.upd hu (fun _ _=>id) id id id (fun _ _ _=>id) id id (h.sto.upd hu id)
end
end Gz
namespace Gz
open Go Go.RowKit Go.Proofs Gl Go.Shelf
attribute [local go_sem] Oper.semAt_some
theorem kwalkft_c {w:World} {bs bm nf cf nt ct:Nat} {Af At:Option Addr} {fk tk:Bs} (hs:StoB w bs bm) (hf:By w Af nf cf fk) (ht:By w At nt ct tk) (hnf:nf<=1073741824) (hnt:nt<=1073741824):
 Calls Tryz.prog 116 #[.pointer (some ⟨bs,0,none⟩),.slice Af nf cf,.slice At nt ct] w fun e w'=>∃p1 p2 b1 b2 b3 A1 c1 A2 c2,e=.returned (.func (.func 234) #[] #[.pointer (some ⟨p1,0,none⟩),.pointer (some ⟨p2,0,none⟩)])/\New w w'/\(w.heap.size<=p1/\w.heap.size<=p2/\w.heap.size<=b1/\w.heap.size<=b2/\w.heap.size<=b3) /\
  w'.cell? ⟨p1,0,none⟩=some (.pointer (some ⟨bs,0,none⟩))/\w'.cell? ⟨p2,0,none⟩=some (.func (.func 108) #[] #[.pointer (some ⟨b1,0,none⟩),.pointer (some ⟨b2,0,none⟩),.pointer (some ⟨b3,0,none⟩)]) /\
  w'.cell? ⟨b1,0,none⟩=some (.pointer (some ⟨bm,0,none⟩))/\w'.cell? ⟨b2,0,none⟩=some (.slice A1 nf c1)/\w'.cell? ⟨b3,0,none⟩=some (.slice A2 nt c2)/\BV (fun b=>w.heap.size<=b) w' (.slice A1 nf c1) fk/\BV (fun b=>w.heap.size<=b) w' (.slice A2 nt c2) tk:=by
 obtain⟨k,hk⟩:=hs;have hc:=zaa hk 0 (.pointer (some ⟨bm,0,none⟩)) rfl;have b6:=zqH (walkft_c (bm:=bm) hf ht hnf hnt);clear hk hf ht;go_enter Tryz.func116,Tryz.ntmps116
 go_wp2_with (first
  | (go_at_call 57;refine b6.out.mono ?_;rintro e w1 ⟨b1,b2,b3,A1,c1,A2,c2,rfl,a2,hb,h1,h2,h3,h4,h5⟩;have H1:=zqH (zN a2 (zN hb (zN h1 (zN h2 (zN h3 (zN h4 h5))))));clear a2 hb h1 h2 h3 h4 h5)
  | (go_at_call 175;refine counted_c.mono ?_;rintro e w2 ⟨p1,p2,rfl,a1,a5,a6,b7,b8,a3,a4⟩;have H2:=zqH (zN a1 (zN a5 (zN a6 (zN a3 a4))));clear a1 a5 a6 b7 b8 a3 a4))
 go_ret
 obtain⟨a2,⟨g1,g2,g3⟩,h1,h2,h3,h4,h5⟩:=H1.out;obtain⟨a1,a5,a6,a3,a4⟩:=H2.out;have c6:=a2.size;exact⟨p1,p2,b1,b2,b3,A1,c1,A2,c2,rfl,a2.trans a1,⟨by omega,by omega,g1,g2,g3⟩,a3,a4,(a1.cell (a:=⟨b1,0,none⟩) (zqB w1 _ h1) id).trans h1,(a1.cell (a:=⟨b2,0,none⟩) (zqB w1 _ h2) id).trans h2,(a1.cell (a:=⟨b3,0,none⟩) (zqB w1 _ h3) id).trans h3,h4.upd a1 (fun _ _=>id),h5.upd a1 (fun _ _=>id)⟩
structure CntT (base bm n c b1 b2 b3 nf cf nt ct bs p1 p2:Nat) (D:Nat->Prop) (A Af At:Option Addr) (vs:List Value) (ps:List (List Ent)) (css:List (List Value)) (fk tk:Bs) (W:World):Prop where
 wlk:WlkT base bm n c b1 b2 b3 nf cf nt ct D A Af At vs ps css fk tk W
 box1:W.cell? ⟨p1,0,none⟩=some (.pointer (some ⟨bs,0,none⟩))
 box2:W.cell? ⟨p2,0,none⟩=some (.func (.func 108) #[] #[.pointer (some ⟨b1,0,none⟩),.pointer (some ⟨b2,0,none⟩),.pointer (some ⟨b3,0,none⟩)])
 sto:StoB W bs bm
end Gz
namespace Gz
open Go Go.RowKit Go.Proofs Gl Go.Shelf
attribute [local go_sem] Oper.semAt_some
section
variable {base bm n c b1 b2 b3 nf cf nt ct bs p1 p2:Nat} {D T:Nat->Prop} {A Af At:Option Addr} {vs:List Value} {ps:List (List Ent)} {css:List (List Value)} {fk tk:Bs} {W W':World}
theorem CntT.upd (h:CntT base bm n c b1 b2 b3 nf cf nt ct bs p1 p2 D A Af At vs ps css fk tk W) (hu:Upd T W W') (hf:∀b,foot bm D A n c vs b->¬T b) (h1:¬T b1) (h2:¬T b2) (h3:¬T b3) (h4:∀a,Af=some a → 0<nf->¬T a.block) (h4':∀a,At=some a → 0<nt->¬T a.block) (h5:¬T p1) (h6:¬T p2) (h7:StoB W' bs bm):CntT base bm n c b1 b2 b3 nf cf nt ct bs p1 p2 D A Af At vs ps css fk tk W':=
 ⟨h.wlk.upd hu hf h1 h2 h3 h4 h4',(hu.cell (a:=⟨p1,0,none⟩) (zqB W _ h.box1) h5).trans h.box1,(hu.cell (a:=⟨p2,0,none⟩) (zqB W _ h.box2) h6).trans h.box2,h7⟩
theorem CntT.new (h:CntT base bm n c b1 b2 b3 nf cf nt ct bs p1 p2 D A Af At vs ps css fk tk W) (hu:New W W'):CntT base bm n c b1 b2 b3 nf cf nt ct bs p1 p2 D A Af At vs ps css fk tk W':=h.upd hu (fun _ _=>id) id id id (fun _ _ _=>id) (fun _ _ _=>id) id id (h.sto.upd hu id)
end
end Gz
namespace Gz
open Go Go.RowKit Go.Proofs Gl Go.Shelf
attribute [local go_sem] Oper.semAt_some
theorem countedT_gives {base bm n c b1 b2 b3 nf cf nt ct bs p1 p2:Nat} {D:Nat->Prop} {A Af At:Option Addr} {vs:List Value} {ps:List (List Ent)} {css:List (List Value)} {fk tk:Bs} (hnt:0<nt) (hlen:ps.flatten.length<=1000000) (hsz:∀e ∈ ps.flatten,e.1.length<=1073741824/\e.2.length<=1073741824)
 (hfb:¬foot bm D A n c vs bs) (hne:bs≠b1/\bs≠b2/\bs≠b3/\bs≠p1/\bs≠p2) (hfr:(∀a,Af=some a → 0<nf->a.block≠bs)/\∀a,At=some a → 0<nt->a.block≠bs):
 Gives Tryz.prog 234 #[.pointer (some ⟨p1,0,none⟩),.pointer (some ⟨p2,0,none⟩)] Copies (fun b=>b=bs) (CntT base bm n c b1 b2 b3 nf cf nt ct bs p1 p2 D A Af At vs ps css fk tk) (between fk tk ps.flatten):=by
 intro l J Jx W hJ hJx hK h0 hY;have d1:=hK.box1;have d2:=hK.box2;have l1:p1<W.heap.size:=zqB W ⟨p1,0,none⟩ d1;have l2:p2<W.heap.size:=zqB W ⟨p2,0,none⟩ d2;have l3:b1<W.heap.size:=zqB W ⟨b1,0,none⟩ hK.wlk.box1;have l4:b2<W.heap.size:=zqB W ⟨b2,0,none⟩ hK.wlk.box2;have l5:b3<W.heap.size:=zqB W ⟨b3,0,none⟩ hK.wlk.box3;have l6:bs<W.heap.size:=hK.sto.lt;obtain⟨WA,a9⟩:=zE (W.alloc (.cells #[.func (.yield l) #[] #[]] 112));have c6:New W WA:=by rw[a9];exact zU _ _ _
 have h2:WA.heap.size=W.heap.size+1:=by rw[a9];show(W.heap.push _).size=_;simp
 have f7:WA.cell? ⟨W.heap.size,0,none⟩=some (.func (.yield l) #[] #[]):=by rw[a9];exact zaa (zX W _) 0 _ rfl
 have a6:=hK.new c6;have k1:=a6.box1;have d0:=a6.box2;have a5:=a6.sto.count;have HY:=zqH hY;have HJ:=zqH hJ;have e4:=zqH hJx;have HK:=zqH hK;have H0:=zqH h0;have HL:=zqH hlen;have f9:=zqH hsz;have g0:=zqH a6;have e5:=zqH hfb;have a2:=zqH hne;have g3:=zqH c6;have g4:=zqH hnt;have b5:=zqH hfr;have a4:=zqH hK.wlk.lows;have c5:∀b,foot bm D A n c vs b->b<W.heap.size:=fun b hb=>hK.wlk.map.map.toMapRaw.foot_lt hb;have b6:=zqH c5;clear hY hJ hJx hK h0 hlen hsz c6 a6 hfb c5 hnt hfr;refine(callsIn_wide (n:=0)).1 ?_
 refine callsIn_of_wp_marks Tryz.func234 rfl trivial ?_ rfl;simp only[Tryz.ntmps234,List.size_toArray,List.length_cons,List.length_nil,Nat.reduceAdd,Nat.reduceSub,Array.replicate_succ,Array.replicate_zero,List.push_toArray,List.append_toArray,List.nil_append,List.cons_append];rw[a9]at a5 k1 d0;have e6:=zqH d0;clear d0
 gi_wp2_with (refine⟨trivial,rfl,?_⟩;gi_at_call 132;refine(callsIn_wide.2 a5).mono ?_;rintro e w1 ⟨⟨rv,rfl⟩,b0,d6⟩;have k2:=(d6.cell (a:=⟨p2,0,none⟩) (zqB _ _ e6.out) (Ne.symm a2.out.2.2.2.2)).trans e6.out;have H1:=zqH (zN b0 d6);clear b0 d6 a5)
 have b7:Hid (Upd (fun b=>b=bs) WA w1):=by rw[a9];exact zqH H1.out.2
 have h6:WA.heap.size<=w1.heap.size:=b7.out.size;have e7:=g0.out.upd b7.out (fun b hb e=>e5.out (e▸hb)) (Ne.symm a2.out.1) (Ne.symm a2.out.2.1) (Ne.symm a2.out.2.2.1) (fun a ha h0=>b5.out.1 a ha h0) (fun a ha h0=>b5.out.2 a ha h0) (Ne.symm a2.out.2.2.2.1) (Ne.symm a2.out.2.2.2.2) H1.out.1;have e8:w1.cell? ⟨W.heap.size,0,none⟩=some (.func (.yield l) #[] #[]):=(b7.out.cell (a:=⟨W.heap.size,0,none⟩) (by simp only;omega) (by simp only;omega)).trans f7;have g5:Upd (fun b=>b=bs) W w1:=(g3.out.mono (fun _ _ h=>h.elim)).trans b7.out;have i9:∀Z b,b<W.heap.size->b≠bs->¬Priv (fun _=>False) w1.heap.size Z b:=fun Z b hb _ h=>h.elim id (fun h=>by omega);refine zbd (gf:=108) (lb:=#[.pointer (some ⟨b1,0,none⟩),.pointer (some ⟨b2,0,none⟩),.pointer (some ⟨b3,0,none⟩)]) rfl (fun args w=>zaw 108 Tryz.func108 (by kernel_rfl) (by kernel_rfl) args w)
  (walkKT_gives (base:=base) (bm:=bm) (n:=n) (c:=c) (D:=D) (A:=A) (vs:=vs) (ps:=ps) (css:=css) (fk:=fk) (tk:=tk) g4.out HL.out f9.out) (fun x _ _ vals he=>by obtain⟨_,_,_,_,_,_,e,_⟩:=he;rw[e];rfl) (fun b h=>h.elim)
  (fun P Q hk hu=>hk.upd hu (fun b hb=>by have:=b6.out b hb;omega) (by omega) (by omega) (by omega) (fun a ha h0=>by have:=a4.out.1 a ha h0;omega) (fun a ha h0=>by have:=a4.out.2 a ha h0;omega)) e7.wlk
  (fun x W0 P Q vals hz he hu=>hu.elim (fun hu=>he.upd hu (fun _ _=>id)) (fun hu=>he.upd hu (fun b hb=>by omega)))
  (fun Z (pre:List Ent) V=>J Z pre V/\CntT base bm n c b1 b2 b3 nf cf nt ct bs p1 p2 D A Af At vs ps css fk tk V/\V.cell? ⟨W.heap.size,0,none⟩=some (.func (.yield l) #[] #[]))
  (fun Z cd (pre:List Ent) V=>cd=.ret/\Jx Z pre V)
  (fun Z hZ s P Q hs hu=>⟨HJ.out Z _ P Q hs.1 (hu.mono (fun b _ hb=>.inr (hb.elim (fun h=>h.elim) (fun h=>⟨by omega,h.2⟩)))),hs.2.1.upd hu (fun b hb h=>by have:=b6.out b hb;exact h.elim id (fun h=>by omega)) (fun h=>h.elim id (fun h=>by omega)) (fun h=>h.elim id (fun h=>by omega)) (fun h=>h.elim id (fun h=>by omega)) (fun a ha h0 h=>by have:=a4.out.1 a ha h0;exact h.elim id (fun h=>by omega)) (fun a ha h0 h=>by have:=a4.out.2 a ha h0;exact h.elim id (fun h=>by omega)) (fun h=>h.elim id (fun h=>by omega)) (fun h=>h.elim id (fun h=>by omega)) (hs.2.1.sto.upd hu (fun h=>h.elim id (fun h=>by omega))),(hu.cell (a:=⟨W.heap.size,0,none⟩) (zqB P _ hs.2.2) (fun h=>h.elim id (fun h=>by simp only at h;omega))).trans hs.2.2⟩)
  (fun Z cd hZ s P Q hs hu=>⟨hs.1,e4.out Z _ P Q hs.2 (hu.mono (fun b _ hb=>.inr (hb.elim (fun h=>h.elim) (fun h=>⟨by omega,h.2⟩))))⟩)
  (fun Z hZ=>⟨(HJ.out Z) _ _ _ (H0.out Z) (g5.mono (fun _ _ h=>.inl h)),e7,e8⟩)
  (fun W0 vals a' V=>∃k1 n1 e1 k2 n2 e2,vals=#[.slice k1 n1 e1,.slice k2 n2 e2]/\a' = { tmps:=#[.func (.yield l) #[] #[],.pointer (some ⟨p1,0,none⟩),.pointer (some ⟨p2,0,none⟩),.pointer (some ⟨W.heap.size,0,none⟩),.slice k1 n1 e1,.slice k2 n2 e2,.pointer (some ⟨bs,0,none⟩),.pointer (some ⟨bs,0,none⟩),.pointer (some ⟨bs,2,none⟩),rv,.func (.func 108) #[] #[.pointer (some ⟨b1,0,none⟩),.pointer (some ⟨b2,0,none⟩),.pointer (some ⟨b3,0,none⟩)],.slice k1 n1 e1,.slice k2 n2 e2,undef,undef,undef,undef,undef,undef,undef,undef,undef],defers:=[] })
  (fun W0 vals a' P Q hs hu=>hs)
  ?assign ?body ?done ?stop
 case assign=>
  rintro l2 x W0 V vals K ⟨pre,post,hx⟩ hz hz0 ⟨A1,n1,e1,A2,n2,e2,rfl,g1,g2⟩ hk hK'
  gi_wp2
  exact hK' _ _ (Upd.refl _ _) ⟨A1,n1,e1,A2,n2,e2,rfl,rfl⟩
 case body=>
  rintro Z pre x W0 V vals a' ⟨post,hx⟩ hZ1 hZ2 ⟨hi,d9,b8⟩ hu0 hcp ⟨k1,n1,e1,k2,n2,e2,rfl,rfl⟩ hk;have a7:=d9.upd hu0 (fun b hb h=>by have:=b6.out b hb;exact h.elim id (fun h=>by omega)) (fun h=>h.elim id (fun h=>by omega)) (fun h=>h.elim id (fun h=>by omega)) (fun h=>h.elim id (fun h=>by omega)) (fun a ha h0 h=>by have:=a4.out.1 a ha h0;exact h.elim id (fun h=>by omega)) (fun a ha h0 h=>by have:=a4.out.2 a ha h0;exact h.elim id (fun h=>by omega)) (fun h=>h.elim id (fun h=>by omega)) (fun h=>h.elim id (fun h=>by omega)) (d9.sto.upd hu0 (fun h=>h.elim id (fun h=>by omega)));have vy:V.cell? ⟨W.heap.size,0,none⟩=some (.func (.yield l) #[] #[]):=(hu0.cell (a:=⟨W.heap.size,0,none⟩) (zqB W0 _ b8) (fun h=>h.elim id (fun h=>by simp only at h;omega))).trans b8;have v1:=a7.box1;have a5:=a7.sto.count;have j0:=zqH a7;have e9:=zqH vy;have g6:=zqH hu0;have j1:=zqH hcp;have HI:=zqH hi;have HX:=zqH hx;have g7:Hid (∀V2,StoB V2 bs bm->Upd (fun b=>b=bs) V V2->YieldAt FW 0 Tryz.prog l #[.slice k1 n1 e1,.slice k2 n2 e2] V2 fun e W'=>Kept W.heap.size Z W0.heap.size V2 W'/\CntT base bm n c b1 b2 b3 nf cf nt ct bs p1 p2 D A Af At vs ps css fk tk W'/\((e=.returned (.bool true)/\J Z (pre ++ [x]) W')\/(e=.returned (.bool false)/\Jx Z (pre ++ [x]) W'))):=zqH (fun V2 a3 a1=>
   HY.out Z pre x W0 V2 _ ⟨post,hx⟩ (by omega) hZ2 hi ((hu0.mono (fun b _ hb=>.inr (hb.elim (fun h=>h.elim) (fun h=>⟨by omega,h.2⟩)))).trans (a1.mono (fun b _ h=>.inl h))) (hcp.upd a1 (fun b hb e=>by omega))
    (a7.upd a1 (fun b hb e=>e5.out (e▸hb)) (Ne.symm a2.out.1) (Ne.symm a2.out.2.1) (Ne.symm a2.out.2.2.1) (fun a ha h0=>b5.out.1 a ha h0) (fun a ha h0=>b5.out.2 a ha h0) (Ne.symm a2.out.2.2.2.1) (Ne.symm a2.out.2.2.2.2) a3))
  clear d9 b8 a7 vy hu0 hcp hi hx hk
  gi_wp2_with (refine⟨trivial,rfl,?_⟩;gi_at_call 132;refine(CallsIn.inRound _ (callsIn_wide.2 a5)).mono ?_;rintro e V2 ⟨⟨j9,rfl⟩,a3,a1⟩;have f0:=(a1.cell (a:=⟨W.heap.size,0,none⟩) (zqB V _ e9.out) (by simp only;omega)).trans e9.out;have H2:=zqH (zN a3 a1);obtain⟨fn,tmps,j5,j6,hy,hR⟩:=g7.out V2 a3 a1;have HR:=zqH hR;clear a3 a1 a5 hR)
  refine⟨rfl,HR.out.mono ?_⟩;rintro e V3 ⟨b9,f5,h4⟩;obtain⟨r,rfl,h5⟩:∃r,e=.returned (.bool r)/\((r=true/\J Z (pre ++ [x]) V3)\/(r=false/\Jx Z (pre ++ [x]) V3)):=h4.elim (fun h=>⟨true,h.1,.inl ⟨rfl,h.2⟩⟩) (fun h=>⟨false,h.1,.inr ⟨rfl,h.2⟩⟩);have a1:=H2.out.2;have f2:V3.cell? ⟨W.heap.size,0,none⟩=some (.func (.yield l) #[] #[]):=(World.cell?_of_block (a:=⟨W.heap.size,0,none⟩) (b9.2 W.heap.size (.inl ⟨zR _,by omega⟩))).trans f0;have a8:V3.heap[w1.heap.size]?=V.heap[w1.heap.size]?/\V3.heap[w1.heap.size+1]?=V.heap[w1.heap.size+1]?/\Kept (w1.heap.size+2) Z W0.heap.size V V3:=by
   have j4:Z<=V.heap.size:=zT hZ2 g6.out.size;have hold:∀b,(W.heap.size<=b/\b<Z)\/(W0.heap.size<=b/\b<V.heap.size)->V3.heap[b]?=V.heap[b]?:=fun b hb=>(b9.2 b (hb.imp id (fun h=>⟨h.1,zqL h.2 a1.size⟩))).trans (a1.block b (by omega) (by omega));exact⟨hold _ (.inl ⟨by omega,by omega⟩),hold _ (.inl ⟨by omega,by omega⟩),zT a1.size b9.1,fun k hk=>hold k (hk.imp (fun h=>⟨by omega,h.2⟩) id)⟩
  have f3:=zqH a8;have d5:=zqH f5;have H5:=zqH h5;have g8:=zqH f2;clear a8 f5 h5 h4 b9 a1 f2 hy HR f0;cases r with
  | true=>
    gi_wp2
    exact⟨f3.out,d5.out.wlk,H5.out.elim (fun h=>h.2) (fun h=>by cases h.1),d5.out,g8.out⟩
  | false=>
    gi_wp2
    exact⟨f3.out,d5.out.wlk,rfl,H5.out.elim (fun h=>by cases h.1) (fun h=>h.2)⟩
 case done=>
  rintro Z V hZ1 hZ2 ⟨hj,f6,b8⟩ hd _
  gi_wp2
  refine⟨by simp,.inl ⟨_,_,rfl,run_takeDeferred hd,?_⟩⟩;refine⟨_,results_none rfl _ _ _,⟨_,rfl⟩,Z,by omega,by simpa using hZ2,.inl ⟨?_,f6.upd (Upd.putObj (S:=fun b=>b=w1.heap.size) V _ rfl) (fun b hb e=>by have:=b6.out b hb;omega) (by omega) (by omega) (by omega) (fun a ha h0 e=>by have:=a4.out.1 a ha h0;have e:a.block=w1.heap.size:=e;omega) (fun a ha h0 e=>by have:=a4.out.2 a ha h0;have e:a.block=w1.heap.size:=e;omega) (by omega) (by omega) (f6.sto.upd (Upd.putObj (S:=fun b=>b=w1.heap.size) V _ rfl) (by omega))⟩⟩;exact HJ.out Z _ _ _ hj (Upd.putObj _ _ (.inr ⟨by omega,by omega⟩))
 case stop=>
  rintro Z cd pre x post V hZ1 hZ2 hx ⟨rfl,h1⟩ hd
  gi_wp2
  refine⟨by simp,.inl ⟨_,_,rfl,run_takeDeferred hd,?_⟩⟩;refine⟨_,results_none rfl _ _ _,⟨_,rfl⟩,Z,by omega,by simpa using hZ2,.inr ⟨pre,x,post,hx,?_⟩⟩;exact e4.out Z _ _ _ h1 (Upd.putObj _ _ (.inr ⟨by omega,by omega⟩))
end Gz
