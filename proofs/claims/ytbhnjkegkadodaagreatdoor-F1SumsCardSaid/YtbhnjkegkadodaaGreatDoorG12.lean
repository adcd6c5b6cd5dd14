/- Part of the proof. -/
import Derived.Test.YtbhnjkegkadodaaGreatDoorG10
import Derived.Lib.Bytealg
import Derived.RangeFuncNested
import Derived.RangeFuncBound
set_option linter.all false
set_option maxRecDepth 100000
set_option maxHeartbeats 8000000
namespace Gl
open Go Go.RowKit Go.Lib
def cmpN (a b:Bs):Int:=if blt a b then -1 else if blt b a then 1 else 0
theorem cmpN_lt {a b:Bs}:cmpN a b = -1↔blt a b=true:=by
 unfold cmpN;split
 · simp[*]
 · split<;>simp[*]
theorem cmpN_gt {a b:Bs}:cmpN a b=1↔blt b a=true:=by
 unfold cmpN;split
 · rename_i h;simp[zbn h]
 · split<;>simp[*]
theorem cmpN_eq {a b:Bs}:cmpN a b=0↔a=b:=by
 unfold cmpN;split
 · rename_i h;simp[blt_ne h]
 · rename_i h;split
   · rename_i h2;simp[Ne.symm (blt_ne h2)]
   · rename_i h2;simpa using blt_tri (by simpa using h) (by simpa using h2)
theorem cmpN_three (a b:Bs):cmpN a b = -1\/cmpN a b=0\/cmpN a b=1:=by
 unfold cmpN;split
 · exact .inl rfl
 · split<;>simp
theorem compareBytes_cmpN:∀ {a b:Bs},Small a->Small b->compareBytes (a.map fun n=>UInt8.ofNat n) (b.map fun n=>UInt8.ofNat n)=cmpN a b
 | [],[],_,_=>rfl
 | [],_ :: _,_,_=>rfl
 | _ :: _,[],_,_=>rfl
 | x :: a,y :: b,ha,hb=>by
   have hx:=ha x List.mem_cons_self;have hy:=hb y List.mem_cons_self;have ih:=compareBytes_cmpN (a:=a) (b:=b) (fun z hz=>ha z (List.mem_cons_of_mem _ hz)) (fun z hz=>hb z (List.mem_cons_of_mem _ hz));have h1:(UInt8.ofNat x<UInt8.ofNat y)↔x<y:=by rw[UInt8.lt_iff_toNat_lt];simp[UInt8.toNat_ofNat'];omega
   have h2:(UInt8.ofNat y<UInt8.ofNat x)↔y<x:=by rw[UInt8.lt_iff_toNat_lt];simp[UInt8.toNat_ofNat'];omega
   simp only[List.map_cons,compareBytes,h1,h2,ih];rw[show cmpN (x :: a) (y :: b)=if blt (x :: a) (y :: b) then -1 else if blt (y :: b) (x :: a) then 1 else 0 from rfl];simp only[blt];by_cases hxy:x<y
   · simp[hxy]
   · by_cases hyx:y<x
     · simp[hxy,hyx]
     · simp[hxy,hyx,cmpN]
theorem bytesOf_by {P:Program} {w:World} {A:Option Addr} {n c:Nat} {bs:Bs} (h:By w A n c bs):∃r:ByteArray,(Extern.Bytes.bytesOf (.slice A n c)).run P w=.ok r w/\r.data.toList=bs.map fun n=>UInt8.ofNat n:=by
 have a1:=h.len;cases A with
 | none=>
   have hc:=h.sl.nil rfl;have hn:n=0:=by have:=h.sl.le;omega
   subst hn;have:bs=[]:=List.length_eq_zero_iff.1 a1;subst this;exact⟨.empty,rfl,rfl⟩
 | some a=>
   rcases Nat.eq_zero_or_pos n with h0|h0
   · subst h0;have:bs=[]:=List.length_eq_zero_iff.1 a1;subst this;exact⟨.empty,rfl,rfl⟩
   · obtain⟨b,off,e,hr⟩:=h.sl.row h0;cases e;obtain⟨r,h1,h2⟩:=Ex.loadBytes_run (P:=P) w b (bs.map fun n:Nat=>(n:Int)) off .empty (fun j v hv=>hr.2 j v (by rw[List.map_map]at hv;exact hv));rw[List.length_map,a1]at h1;refine⟨r,h1,?_⟩;rw[h2,show ByteArray.empty.data.toList=[] from rfl,List.nil_append,List.map_map]
     rfl
theorem cmp_by {P:Program} {w:World} {A A':Option Addr} {n c n' c':Nat} {xs ys:Bs} (ha:By w A n c xs) (hb:By w A' n' c' ys):
 (Extern.BytealgCompare.compare #[.slice A n c,.slice A' n' c']).run P w=.ok (.int .i64 (cmpN xs ys)) w:=by
 obtain⟨r,h1,h2⟩:=bytesOf_by (P:=P) ha;obtain⟨s,h3,h4⟩:=bytesOf_by (P:=P) hb;show(do pure (goInt (Extern.BytealgCompare.cmp (<-Extern.Bytes.bytesOf (.slice A n c)) (<-Extern.Bytes.bytesOf (.slice A' n' c')))):Sem Value).run P w=_;simp only[Sem.run_bind,h1,h3,Result.andThen,Sem.run_pure];rw[cmp_eq,h2,h4,compareBytes_cmpN ha.small hb.small]
 rfl
end Gl
namespace Gl
open Go Go.RowKit
abbrev FW:Fence:=Fence.wide
def Abide {β:Type} (S:Nat->Prop) (J:β->World->Prop):Prop:=∀s A B,J s A->Upd S A B->J s B
theorem Abide.mono {β:Type} {S S':Nat->Prop} {J:β->World->Prop} (h:Abide S' J) (hs:∀b,S b->S' b):Abide S J:=fun s A B hj hu=>h s A B hj (hu.mono (fun c _ hc=>hs c hc))
theorem Upd.putObj {S:Nat->Prop} (w:World) {r:Nat} (o:Obj) (hs:S r):Upd S w (w.putObj r o):=
 ⟨rfl,rfl,rfl,by simp,fun c _ hn=>World.putObj_heap_other (fun e=>hn (e▸hs))⟩
def Priv (S:Nat->Prop) (b z:Nat):Nat->Prop:=fun c=>S c\/(b<=c/\c<z)
def Kept (b z c:Nat) (W W':World):Prop:=W.heap.size<=W'.heap.size/\∀k,(b<=k/\k<z)\/(c<=k/\k<W.heap.size)->W'.heap[k]?=W.heap[k]?
def Gives (P:Program) {α:Type} (g:Nat) (lb:Array Value) (E:α->World->World->Array Value->Prop) (S:Nat->Prop) (Kp:World->Prop) (L:List α):Prop:=
 ∀(l:Nat) (J Jx:Nat->List α->World->Prop) (W:World),(∀Z,Abide (Priv S W.heap.size Z) (J Z)) → (∀Z,Abide (Priv S W.heap.size Z) (Jx Z))->Kp W → (∀Z,J Z [] W) ->
  (∀Z pre x W0 W1 vals,(∃post,L=pre ++ x :: post)->W.heap.size<=Z->Z<=W0.heap.size->J Z pre W0->Upd (Priv S W.heap.size Z) W0 W1->E x W0 W1 vals->Kp W1->YieldAt FW 0 P l vals W1 fun e W'=>
    Kept W.heap.size Z W0.heap.size W1 W'/\Kp W'/\((e=.returned (.bool true)/\J Z (pre ++ [x]) W')\/(e=.returned (.bool false)/\Jx Z (pre ++ [x]) W'))) ->
  Calls P g (#[.func (.yield l) #[] #[]] ++ lb) W fun e W'=>(∃v,e=.returned v)/\∃Z,W.heap.size<=Z/\Z<=W'.heap.size/\(J Z L W'/\Kp W'\/∃pre x post,L=pre ++ x :: post/\Jx Z (pre ++ [x]) W')
def roundEnd {α:Type} (d Z c:Nat) (Kp:World->Prop) (I:List α->World->Prop) (Ix:Code->List α->World->Prop) (xs:List α) (W:World):Exit->Act->World->Prop
 | .normal,_,W'=>(W'.heap[d]?=W.heap[d]?/\W'.heap[d+1]?=W.heap[d+1]?/\Kept (d+2) Z c W W')/\Kp W'/\I xs W'
 | .ret,_,W'=>(W'.heap[d]?=W.heap[d]?/\W'.heap[d+1]?=W.heap[d+1]?/\Kept (d+2) Z c W W')/\Kp W'/\Ix .ret xs W'
 | .exit id,_,W'=>(W'.heap[d]?=W.heap[d]?/\W'.heap[d+1]?=W.heap[d+1]?/\Kept (d+2) Z c W W')/\Kp W'/\Ix (.exit id) xs W'
 | .goto t,_,W'=>(W'.heap[d]?=W.heap[d]?/\W'.heap[d+1]?=W.heap[d+1]?/\Kept (d+2) Z c W W')/\Kp W'/\Ix (.goto t) xs W'
 | .panic _,_,_=>False
 | .outgrown,_,_=>False
theorem zbd {P:Program} {n:Nat} {α:Type} {g:Operand} {ps:Array Tmp} {assign body:Code} {Q:Exit->Act->World->Prop} {a:Act} {w:World}
 {gf:Nat} {lb:Array Value} (hg:a.eval g=.func (.func gf) #[] lb) (eg:∀args w,(callFunc gf args).run P w=.ok (.enter gf args) w)
 {E:α->World->World->Array Value->Prop} {S:Nat->Prop} {Kp:World->Prop} {L:List α} (hseq:Gives P gf lb E S Kp L) (hps:∀x W0 W1 vals,E x W0 W1 vals->vals.size=ps.size)
 (hS:∀b,S b->b<w.heap.size) (hK:∀A B,Kp A->Upd (fun b=>w.heap.size<=b) A B->Kp B) (hKw:Kp w)
 (hE:∀x W0 A B vals,w.heap.size+2<=W0.heap.size->E x W0 A vals->New A B\/Upd (fun b=>b=w.heap.size+1) A B->E x W0 B vals)
 (I:Nat->List α->World->Prop) (Ix:Nat->Code->List α->World->Prop)
 (hI:∀Z,w.heap.size+2<=Z->Abide (Priv S w.heap.size Z) (I Z)) (hIx:∀Z c,w.heap.size+2<=Z->Abide (Priv S w.heap.size Z) (Ix Z c)) (h0:∀Z,w.heap.size+2<=Z->I Z [] w)
 (Ax:World->Array Value->Act->World->Prop) (hAx:∀W0 vals a' A B,Ax W0 vals a' A->Upd (fun b=>b=w.heap.size+1) A B->Ax W0 vals a' B)
 (hassign:∀(l:Nat) (x:α) (W0 W:World) (vals:Array Value) (K:Act->World->Prop),(∃pre post,L=pre ++ x :: post)->w.heap.size+2<=W.heap.size->W0.heap.size<=W.heap.size->E x W0 W vals->Kp W → (∀a' W',New W W'->Ax W0 vals a' W'->K a' W') ->
   assign.wpIn (FW.inRound l) 0 P (Exit.then K (fun _ _ _=>False)) { tmps:=(ps.zip vals).foldl (fun t (p,v)=>t.setIfInBounds p v) a.tmps,defers:=[] } W)
 (hbody:∀(Z:Nat) (pre:List α) (x:α) (W0 W:World) (vals:Array Value) (a':Act),(∃post,L=pre ++ x :: post)->w.heap.size+2<=Z->Z<=W0.heap.size->I Z pre W0->Upd (Priv S w.heap.size Z) W0 W->E x W0 W vals->Ax W0 vals a' W->Kp W->body.wpIn (FW.inRound (w.heap.size+1)) 0 P (roundEnd w.heap.size Z W0.heap.size Kp (I Z) (Ix Z) (pre ++ [x]) W) a' W)
 (hdone:∀(Z:Nat) (W:World),w.heap.size+2<=Z->Z<=W.heap.size->I Z L W->W.heap[w.heap.size]?=some (.deferred (some []))->Kp W->Q .normal { a with defers:={ target:=.collected w.heap.size,args:=#[] } :: a.defers } W)
 (hstop:∀(Z:Nat) (c:Code) (pre:List α) (x:α) (post:List α) (W:World),w.heap.size+2<=Z->Z<=W.heap.size->L=pre ++ x :: post->Ix Z c (pre ++ [x]) W->W.heap[w.heap.size]?=some (.deferred (some []))->c.wpIn FW n P Q { a with defers:={ target:=.collected w.heap.size,args:=#[] } :: a.defers } W):
 (Code.rangeFunc g ps assign body).wpIn FW n P Q a w:=by
 refine wpIn_rangeFunc ?_
 intro fn hfn;rw[show FW.round=none from rfl];obtain⟨a1,a2⟩:∃a1:LoopState->Option Code->Loop,a1=fun st pe=>{ state:=st,pending:=pe,fn,tmps:=a.tmps,params:=ps,assign,body,defers:=w.heap.size }:=⟨_,rfl⟩
 obtain⟨W1,b8⟩:∃W1,(w.alloc (.deferred (some []))).alloc (.loop (a1 .ready none))=W1:=⟨_,rfl⟩
 have f4:W1.heap[w.heap.size+1]?=some (.loop (a1 .ready none)):=by
  rw[<-b8];have:=World.alloc_heap_new (w.alloc (.deferred (some []))) (.loop (a1 .ready none));rwa [World.size_alloc]at this
 have f5:W1.heap[w.heap.size]?=some (.deferred (some [])):=by
  rw[<-b8];exact(Below.heap_alloc _ _ _ (by simp)).trans (World.alloc_heap_new w _)
 have e3:∀T:Nat->Prop,Upd T w W1:=fun T=>by
  rw[<-b8];exact(zU T w _).trans (zU T _ _)
 have f6:∀Z,w.heap.size+2<=Z->I Z [] W1:=fun Z hZ=>hI Z hZ _ _ _ (h0 Z hZ) (e3 _);have f7:w.heap.size+2<=W1.heap.size:=by rw[<-b8];simp
 have h3:W1.heap.size=w.heap.size+2:=by rw[<-b8];simp
 have e4:Kp W1:=hK _ _ hKw (e3 _);have b9:¬S w.heap.size:=fun h=>by have:=hS _ h;omega
 have c5:¬S (w.heap.size+1):=fun h=>by have:=hS _ h;omega
 refine⟨w.heap.size+1,[{ target:=.collected w.heap.size,args:=#[] }],W1,{ target:=.fn (.func gf) lb,args:=#[.func (.yield (w.heap.size+1)) #[] #[]] },W1,gf,
  #[.func (.yield (w.heap.size+1)) #[] #[]] ++ lb,W1,?_,?_,?_,?_,fun h=>by simp[Fence.wide]at h,?_⟩
 · rw[<-b8,a2];exact run_enterLoop_outer _ _ _ _ _
 · simp only[resolve,hg];simp[go_sem]
 · intro f' hf';trivial
 · simp[invoke,go_sem,eg]
 · refine callsIn_wide.2 ?_
   refine(hseq (w.heap.size+1)
    (fun Z pre W=>I (max Z (w.heap.size+2)) pre W/\W.heap[w.heap.size+1]?=some (.loop (a1 .ready none))/\W.heap[w.heap.size]?=some (.deferred (some []))/\w.heap.size+2<=W.heap.size)
    (fun Z pre W=>∃c,Ix (max Z (w.heap.size+2)) c pre W/\W.heap[w.heap.size+1]?=some (.loop (a1 .done (some c)))/\W.heap[w.heap.size]?=some (.deferred (some []))/\w.heap.size+2<=W.heap.size)
    W1 (fun Z s A B hs hu=>⟨hI _ (by omega) s A B hs.1 (hu.mono (fun c _ hc=>hc.imp id (fun hc=>⟨by omega,by omega⟩))),(hu.block _ (by have:=hs.2.2.2;omega) (fun h=>h.elim c5 (fun h=>by omega))).trans hs.2.1,(hu.block _ (by have:=hs.2.2.2;omega) (fun h=>h.elim b9 (fun h=>by omega))).trans hs.2.2.1,zT hs.2.2.2 hu.size⟩)
    (fun Z s A B hs hu=>by
      obtain⟨c,hc,hl,hk,hz⟩:=hs;exact⟨c,hIx _ c (by omega) s A B hc (hu.mono (fun c _ hc=>hc.imp id (fun hc=>⟨by omega,by omega⟩))),(hu.block _ (by omega) (fun h=>h.elim c5 (fun h=>by omega))).trans hl,(hu.block _ (by omega) (fun h=>h.elim b9 (fun h=>by omega))).trans hk,zT hz hu.size⟩)
    e4 (fun Z=>⟨f6 _ (by omega),f4,f5,f7⟩) ?_).mono ?_
   · rintro Z pre x W0 W vals a8 g9 h1 ⟨hi,g7,g8,e1⟩ hu0 he d7;have c6:w.heap.size+2<=max Z (w.heap.size+2):=(by omega);have f8:max Z (w.heap.size+2)<=W0.heap.size:=(by omega);have d0:Priv S w.heap.size (max Z (w.heap.size+2)) (w.heap.size+1):=.inr ⟨by omega,by omega⟩;have hl:=(hu0.block _ (by omega) (fun h=>h.elim c5 (fun h=>by omega))).trans g7;have hk:=(hu0.block _ (by omega) (fun h=>h.elim b9 (fun h=>by omega))).trans g8;have hz:w.heap.size+2<=W.heap.size:=zT e1 hu0.size;have hy:=run_yield (P:=P) (args:=vals) hl (by rw[a2];exact hps x _ _ _ he);rw[a2]at hy;refine⟨fn,_,assign,body,hy,roundIn_of_wpIn hfn (hassign _ x W0 W vals _ ⟨pre,a8⟩ hz hu0.size he d7 ?_)⟩;clear hy;intro a' Wa hna hax;have g0:=(hna.block _ (by omega) id).trans hl;have g1:=(hna.block _ (by omega) id).trans hk;have g2:w.heap.size+2<=Wa.heap.size:=zT hz hna.size;have g3:w.heap.size+1<Wa.heap.size:=(by omega);refine⟨_,run_beginRound g0 (by rw[a2]),?_⟩;have d5:∀(T:Nat->Prop),T (w.heap.size+1)->Upd T Wa (Wa.putObj (w.heap.size+1) (.loop { a1 .ready none with state:=.busy })):=fun T hT=>Upd.putObj Wa _ hT;have e5:(Wa.putObj (w.heap.size+1) (.loop { a1 .ready none with state:=.busy })).heap[w.heap.size+1]?=some (.loop { a1 .ready none with state:=.busy }):=World.putObj_heap_same g3;have e6:(Wa.putObj (w.heap.size+1) (.loop { a1 .ready none with state:=.busy })).heap[w.heap.size]?=some (.deferred (some [])):=(World.putObj_heap_other (by omega)).trans g1;have g4:w.heap.size+2<=(Wa.putObj (w.heap.size+1) (.loop { a1 .ready none with state:=.busy })).heap.size:=(by simpa using g2);have e7:=(hbody _ pre x W0 _ vals a' a8 c6 f8 hi (((hu0.mono (fun c _ hc=>hc.imp id (fun hc=>⟨by omega,by omega⟩))).trans (hna.mono (fun _ _ hc=>hc.elim))).trans (d5 _ d0)) (hE x W0 _ _ vals e1 (hE x W0 _ _ vals e1 he (.inl hna)) (.inr (d5 _ rfl))) (hAx W0 vals a' _ _ hax (d5 _ rfl)) (hK _ _ (hK _ _ d7 (hna.mono (fun _ _ hc=>hc.elim))) (d5 _ (by omega))))
     obtain⟨WB,d6⟩:∃WB,WB=Wa.putObj (w.heap.size+1) (.loop { a1 .ready none with state:=.busy }):=⟨_,rfl⟩
     rw[<-d6]at e5 e6 g4 ⊢;have h2:WB.heap.size=Wa.heap.size:=(by rw[d6];simp);have e8:∀k,k≠w.heap.size+1->WB.heap[k]?=Wa.heap[k]?:=fun k hk=>(by rw[d6];exact World.putObj_heap_other hk);have fin:∀(jump:Option Code) (W3:World),(W3.heap[w.heap.size]?=WB.heap[w.heap.size]?/\W3.heap[w.heap.size+1]?=WB.heap[w.heap.size+1]?/\Kept (w.heap.size+2) (max Z (w.heap.size+2)) W0.heap.size WB W3) ->
        (Instr.endRound (w.heap.size+1) jump).run P W3=.ok (.bool jump.isNone) (W3.putObj (w.heap.size+1) (.loop (a1 (if jump.isNone then .ready else .done) jump))) /\
        (W3.putObj (w.heap.size+1) (.loop (a1 (if jump.isNone then .ready else .done) jump))).heap[w.heap.size+1]?=some (.loop (a1 (if jump.isNone then .ready else .done) jump)) /\
        (W3.putObj (w.heap.size+1) (.loop (a1 (if jump.isNone then .ready else .done) jump))).heap[w.heap.size]?=some (.deferred (some [])) /\
        w.heap.size+2<=(W3.putObj (w.heap.size+1) (.loop (a1 (if jump.isNone then .ready else .done) jump))).heap.size /\
        Kept W1.heap.size Z W0.heap.size W (W3.putObj (w.heap.size+1) (.loop (a1 (if jump.isNone then .ready else .done) jump)))/\∀T:Nat->Prop,T (w.heap.size+1)->Upd T W3 (W3.putObj (w.heap.size+1) (.loop (a1 (if jump.isNone then .ready else .done) jump))):=fun jump W3 a4=>by
      have e9:=a4.2.1.trans e5;have h4:=a4.2.2.1;have g5:=a4.1.trans e6;have f0:=(zqA.1 e9).1;have:=run_endRound (P:=P) jump e9;rw[a2]at this ⊢;refine⟨this,World.putObj_heap_same f0,(World.putObj_heap_other (by omega)).trans g5,by simp;omega,⟨by simp only[World.putObj_size];exact zT hna.size (by omega),fun k hkk=>?_⟩,fun T hT=>Upd.putObj W3 _ hT⟩;have f2:k≠w.heap.size+1:=(by omega);have g6:k<W.heap.size:=(by have:=hu0.size;omega);rw[World.putObj_heap_other f2,a4.2.2.2 k (by have:=hna.size;omega),e8 k f2,hna.block k g6 id]
     rw[<-d6]at e7;refine wpIn_mono e7 ?_
     rintro e a3 W3 hp;cases e with
     | normal=>
       obtain⟨a4,a5,a9⟩:=hp;obtain⟨hr,b0,b5,b6,a6,a7⟩:=fin none W3 a4;exact⟨_,_,hr,a6,hK _ _ a5 (a7 _ (by omega)),.inl ⟨rfl,hI _ c6 _ _ _ a9 (a7 _ d0),b0,b5,b6⟩⟩
     | ret=>
       obtain⟨a4,a5,a9⟩:=hp;obtain⟨hr,b0,b5,b6,a6,a7⟩:=fin (some .ret) W3 a4;exact⟨_,_,hr,a6,hK _ _ a5 (a7 _ (by omega)),.inr ⟨rfl,.ret,hIx _ _ c6 _ _ _ a9 (a7 _ d0),b0,b5,b6⟩⟩
     | exit id=>
       obtain⟨a4,a5,a9⟩:=hp;obtain⟨hr,b0,b5,b6,a6,a7⟩:=fin (some (.exit id)) W3 a4;exact⟨_,_,hr,a6,hK _ _ a5 (a7 _ (by omega)),.inr ⟨rfl,.exit id,hIx _ _ c6 _ _ _ a9 (a7 _ d0),b0,b5,b6⟩⟩
     | goto t=>
       obtain⟨a4,a5,a9⟩:=hp;obtain⟨hr,b0,b5,b6,a6,a7⟩:=fin (some (.goto t)) W3 a4;exact⟨_,_,hr,a6,hK _ _ a5 (a7 _ (by omega)),.inr ⟨rfl,.goto t,hIx _ _ c6 _ _ _ a9 (a7 _ d0),b0,b5,b6⟩⟩
     | panic ch=>exact hp.elim
     | outgrown=>exact hp.elim
   · rintro e W2 ⟨⟨v,rfl⟩,Z,g9,h1,(⟨⟨hi,hl,hk,hz⟩,d7⟩|⟨pre,x,post,a8,c,hi,hl,hk,hz⟩)⟩
     · exact⟨none,_,by have:=run_endLoop (P:=P) hl (by rw[a2];simp);rw[a2]at this;exact this,hdone _ _ (by omega:w.heap.size+2<=max Z (w.heap.size+2)) (by simp only[World.putObj_size];omega) (hI _ (by omega) _ _ _ hi (Upd.putObj _ _ (.inr ⟨by omega,by omega⟩))) ((World.putObj_heap_other (by omega)).trans hk) (hK _ _ d7 (Upd.putObj _ _ (Nat.le_succ _)))⟩
     · exact⟨some c,_,by have:=run_endLoop (P:=P) hl (by rw[a2];simp);rw[a2]at this;exact this,hstop _ c pre x post _ (by omega:w.heap.size+2<=max Z (w.heap.size+2)) (by simp only[World.putObj_size];omega) a8 (hIx _ c (by omega) _ _ _ hi (Upd.putObj _ _ (.inr ⟨by omega,by omega⟩))) ((World.putObj_heap_other (by omega)).trans hk)⟩
abbrev CE:=Value × Value × Ent
def entsOf (l:List CE):List Ent:=l.map fun x=>x.2.2
theorem zaq (l:List CE) (x:CE):entsOf (l ++ [x])=entsOf l ++ [x.2.2]:=by simp[entsOf]
def ce:List Value->List Ent->List CE
 | k :: v :: cs,e :: l=>(k,v,e) :: ce cs l
 | _,_=>[]
theorem ce_get {D:Nat->Prop} {w:World}:∀ {cs:List Value} {l:List Ent},EntsAt D w cs l → (ce cs l).length=l.length/\(ce cs l).map (·.2.2)=l/\(∀(i:Nat) (x:CE),(ce cs l)[i]?=some x->cs[i*2]?=some x.1/\cs[i*2+1]?=some x.2.1)/\∀x ∈ ce cs l,BV D w x.1 x.2.2.1/\BV D w x.2.1 x.2.2.2
 | [],[],_=>⟨rfl,rfl,fun i x hx=>by simp[ce]at hx,fun x hx=>by cases hx⟩
 | k :: v :: cs,e :: l,⟨a,b,h⟩=>by
   obtain⟨h1,h2,h3,h4⟩:=ce_get h;refine⟨by simp[ce,h1],by simp[ce,h2],fun i x hx=>?_,fun x hx=>?_⟩
   · cases i with
     | zero=>simp[ce]at hx;subst hx;exact⟨rfl,rfl⟩
     | succ i=>
       rw[show(i+1)*2=i*2+1+1 by omega]
       simpa using h3 i x (by simpa[ce] using hx)
   · rcases List.mem_cons.1 hx with rfl|hx
     · exact⟨a,b⟩
     · exact h4 x hx
 | [],_ :: _,h=>h.elim
 | [_],[],h=>h.elim
 | [_],_ :: _,h=>h.elim
 | _ :: _ :: _,[],h=>h.elim
structure MapC (tE tP base:Nat) (w:World) (bm:Nat) (D:Nat->Prop) (A:Option Addr) (n c:Nat) (vs:List Value) (ps:List (List Ent)) (css:List (List Value)):Prop where
 map:MapIn tE tP base w bm D A n c vs ps
 clen:css.length=ps.length
 cells:∀(i:Nat) (v:Value) (l:List Ent) (cs:List Value),vs[i]?=some v->ps[i]?=some l->css[i]?=some cs->w.ownsRow base tE 2 v l.length cs/\EntsAt D w cs l
def ceAll (css:List (List Value)) (ps:List (List Ent)):List (List CE):=List.zipWith ce css ps
end Gl
namespace Gl
open Go Go.RowKit
section
variable {tE tP base bm n c:Nat} {w w':World} {D T:Nat->Prop} {A:Option Addr} {vs:List Value} {ps:List (List Ent)} {css:List (List Value)}
theorem MapIn.named (h:MapIn tE tP base w bm D A n c vs ps):∃css,MapC tE tP base w bm D A n c vs ps css:=by
 have:∀m,m<=ps.length->∃css:List (List Value),css.length=m/\∀(i:Nat) (v:Value) (l:List Ent) (cs:List Value),vs[i]?=some v->ps[i]?=some l->css[i]?=some cs->w.ownsRow base tE 2 v l.length cs/\EntsAt D w cs l:=by
  intro m
  induction m with
  | zero=>exact fun _=>⟨[],rfl,fun i v l cs _ _ hc=>by simp at hc⟩
  | succ m ih=>
    intro hm;obtain⟨css,h1,h2⟩:=ih (by omega);have hv:vs[m]?=some (vs[m]'(by have:=h.len;omega)):=zG _;have hl:ps[m]?=some (ps[m]'(by omega)):=zG _;obtain⟨cs,h3,h4⟩:=h.page m _ _ hv hl;refine⟨css ++ [cs],by simp[h1],fun i v l cs' a b hc=>?_⟩;by_cases hi:i<css.length
    · rw[List.getElem?_append_left hi]at hc;exact h2 i v l cs' a b hc
    · have a3:i=m:=by
       have:=(List.getElem?_eq_some_iff.1 hc).1;simp at this;omega
      subst a3;rw[List.getElem?_append_right (by omega)]at hc;simp[h1]at hc;subst hc;rw[hv]at a;rw[hl]at b;cases a;cases b;exact⟨h3,h4⟩
 obtain⟨css,h1,h2⟩:=this ps.length (zR _);exact⟨css,h,h1,h2⟩
theorem MapC.upd (h:MapC tE tP base w bm D A n c vs ps css) (hu:Upd T w w') (hf:∀b,foot bm D A n c vs b->¬T b):MapC tE tP base w' bm D A n c vs ps css:=
 ⟨h.map.upd hu hf,h.clen,fun i v l cs a b hc=>by
   obtain⟨h1,h2⟩:=h.cells i v l cs a b hc;exact⟨zae h1 (fun b hb hl=>hu.block b hl (hf b (.inr (.inr (.inl ⟨v,List.mem_of_getElem? a,hb⟩))))),h2.imp (fun _ _ hb=>hb.upd hu (fun b hd=>hf b (.inr (.inr (.inr hd)))))⟩⟩
theorem MapC.all_len (h:MapC tE tP base w bm D A n c vs ps css):(ceAll css ps).length=ps.length:=by
 simp[ceAll,h.clen]
theorem MapC.all_at (h:MapC tE tP base w bm D A n c vs ps css) {i:Nat} (hi:i<ps.length):∃cs,css[i]?=some cs/\(ceAll css ps)[i]?=some (ce cs ps[i]):=by
 have hc:i<css.length:=by rw[h.clen];exact hi
 exact⟨css[i],zG hc,by simp[ceAll,List.getElem?_zipWith,hi,hc]⟩
theorem MapC.at (h:MapC tE tP base w bm D A n c vs ps css) {i:Nat} (hi:i<ps.length):∃g gp cp xs,A=some ⟨g,0,none⟩/\w.cell? ⟨g,i,none⟩=some (.slice (some ⟨gp,0,none⟩) xs.length cp)/\xs.length<=cp/\cp<=maxLen/\(ceAll css ps)[i]?=some xs/\xs.length<=32 /\
 ∀(j:Nat) (x:CE),xs[j]?=some x->w.cell? ⟨gp,j*2,none⟩=some x.1/\w.cell? ⟨gp,j*2+1,none⟩=some x.2.1:=by
 obtain⟨g,gp,cp,cs,e1,e2,e3,e4,e5,e6⟩:=h.map.at hi;obtain⟨a1,h1,h2⟩:=h.all_at hi;obtain⟨h3,h4⟩:=h.cells i _ _ a1 e2 (zG hi) h1;obtain⟨k1,k2,k3,k4⟩:=ce_get h4;have hs:=Sl.of_own h3;refine⟨g,gp,cp,ce a1 ps[i],e1,by rw[k1];exact e3,by rw[k1];exact hs.le,hs.max,h2,by rw[k1];exact h.map.few _ (List.getElem_mem hi),fun j x hx=>?_⟩;obtain⟨a,b⟩:=k3 j x hx;exact⟨by simpa using hs.cell rfl a,by simpa using hs.cell rfl b⟩
theorem MapC.all_ents (h:MapC tE tP base w bm D A n c vs ps css):(ceAll css ps).flatten.map (·.2.2)=ps.flatten:=by
 rw[List.map_flatten]
 congr 1
 apply List.ext_getElem?;intro i;by_cases hi:i<ps.length
 · obtain⟨a1,h1,h2⟩:=h.all_at hi;have hv:vs[i]?=some (vs[i]'(by have:=h.map.len;omega)):=zG _;obtain⟨_,h4⟩:=h.cells i _ _ a1 hv (zG hi) h1;rw[List.getElem?_map,h2,zG hi];simp[(ce_get h4).2.1]
 · rw[List.getElem?_eq_none (by rw[List.length_map,h.all_len];omega),List.getElem?_eq_none (by omega)]
theorem MapC.all_by (h:MapC tE tP base w bm D A n c vs ps css):∀x ∈ (ceAll css ps).flatten,BV D w x.1 x.2.2.1/\BV D w x.2.1 x.2.2.2:=by
 intro x hx;obtain⟨xs,a2,hx⟩:=List.mem_flatten.1 hx;obtain⟨i,hi⟩:=List.getElem?_of_mem a2;have a1:i<ps.length:=by rw[<-h.all_len];exact(List.getElem?_eq_some_iff.1 hi).1
 obtain⟨a5,h1,h2⟩:=h.all_at a1;rw[h2]at hi;cases hi;have hv:vs[i]?=some (vs[i]'(by have:=h.map.len;omega)):=zG _;obtain⟨_,h4⟩:=h.cells i _ _ a5 hv (zG a1) h1;exact(ce_get h4).2.2.2 x hx
end
end Gl
namespace Gl
open Go Go.RowKit
theorem pageOf_nil {ps:List (List Ent)} {p:Nat} (hg:Pages ps) (h:PageOf ps [] p):p=0:=by
 obtain⟨hp,_,h2⟩:=h;rcases h2 with h2|⟨_,h2⟩
 · exact h2
 · by_cases e:p=0
   · exact e
   · have h3:=heads_rise hg (i:=0) (j:=p) (by omega) hp;cases hh:head1 ps[p] with
     | nil=>rw[hh,blt_nil]at h3;cases h3
     | cons a l=>rw[hh]at h2;cases h2
theorem place_nil {l:List Ent} {i:Nat} {f:Bool} (h:KeyPlace l [] i f):i=0:=by
 by_cases e:i=0
 · exact e
 · have:=h.2.2.1 0 (by omega);rw[blt_nil]at this;cases this
end Gl
