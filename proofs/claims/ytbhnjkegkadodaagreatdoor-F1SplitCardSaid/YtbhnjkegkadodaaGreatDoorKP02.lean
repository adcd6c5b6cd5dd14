/- A part of the proof of the statement of this seat: no condition. -/
import Derived.Test.YtbhnjkegkadodaaGreatDoorProg
import Derived.Test.YtbhnjkegkadodaaGreatDoorXG07
import Derived.Laws.Externs
import Derived.KernelRfl
import Derived.Laws.Append
import Derived.Shelf.RegionOpenPlain
import Derived.WalkKit
import Derived.Lib.Walk
import Derived.Lib.SliceRun
import Derived.Lib.JoinLaws
import Derived.Lib.AppendZeros
import Derived.Lib.Overlaps
import Derived.Laws.IdiomCopy
import Derived.Shelf.Spec.SlicesInsert
import Derived.Lib.AppendZerosOnto
import Derived.Laws.NewBlocks
set_option linter.unusedVariables false
set_option linter.unusedSimpArgs false
set_option maxRecDepth 100000
set_option maxHeartbeats 8000000
section
open Go Go.Proofs
namespace Go.Proofs.YtbhnjkegkadodaaGreatDoor
noncomputable def ovr1:FuncId->Option (Ex.Heap->List Value->Ex.Out):=fun f=>match f with|197=>some (fun H=>Ex.insertA H 2)|199=>some (fun H=>Ex.insertA H 1)|_=>none
def ext1:FuncId->Ex.ExtK:=fun f=>match f with|193=>.add|170=>.cmp|_=>.pure
noncomputable def E1:Ex.Env:=Ex.envOf Tryz.prog 12 12 8 ext1 ovr1
theorem nogs:(Tryz.prog.funcs.toList.all fun fn=>(fn.name == "runtime.NumGoroutine") == false)=true:=by decide +kernel
theorem cmp_run (f:FuncId) (h:ext1 f=.cmp) (a b:Value) (w w':World) (v:Value) (hr:(Extern.BytealgCompare.compare #[a,b]).run Tryz.prog w=.ok v w'):(callFunc f #[a,b]).run Tryz.prog w=.ok (.value v) w':=by
 have hf:f=170:=by
  unfold ext1 at h
  split at h<;>first|rfl|cases h
 subst hf
 rw[run_callFunc_extern (e:=Extern.BytealgCompare.compare) Tryz.func170 (by kernel_rfl) (by kernel_rfl) (by kernel_rfl) (by kernel_rfl),hr];rfl
theorem add_run (f:FuncId) (h:ext1 f=.add) (a b:Value) (w w':World) (v:Value) (hr:(Extern.Atomic.update (Op.intArith .add) .i64 true #[a,b]).run Tryz.prog w=.ok v w'):(callFunc f #[a,b]).run Tryz.prog w=.ok (.value v) w':=by
 have hf:f=193:=by
  unfold ext1 at h
  split at h<;>first|rfl|cases h
 subst hf
 rw[run_callFunc_extern (e:=Extern.Atomic.update (Op.intArith .add) .i64 true) Tryz.func193 (by kernel_rfl) (by kernel_rfl) (by kernel_rfl) (by kernel_rfl),hr];rfl
end Go.Proofs.YtbhnjkegkadodaaGreatDoor
end
namespace Ex
open Go
variable {E:Env} {ρ ρ':Rho} {H H':Heap} {w w':World}
theorem rehold (h:HR E.ng ρ H w) {b o k:Nat} {p:Pl} {cs R R':List Value} {cells cells':Array Value} {e:TypeId} {fr:Nat × Nat} (hp:ρ b=some p) (hb:H.get b=.cells cs k) (hk:k≠0)
 (hw:w.heap[p.c]?=some (.cells cells e fr)) (hsz:cells'.size=cells.size) (hfz:∀o,o<cells.size->¬(fr.1<=o/\o<fr.2)) (hcz:cells.size=p.s+p.z) (hR:LR ρ R R') (hfit:o+R.length<=p.z) (hat:∀i v,R[i]?=some v->cells'[p.s+o+i]?=some v):
 HR E.ng (ρ.put H.next ⟨p.c,p.s+o,p.z-o,k⟩) (newRowA (H.set b .none) R' k) (withObj w p.c (.cells cells' e fr))/\Ext ρ H w (ρ.put H.next ⟨p.c,p.s+o,p.z-o,k⟩) (newRowA (H.set b .none) R' k) (withObj w p.c (.cells cells' e fr)):=by
 have halive:H.get b≠.none:=by rw[hb];simp
 have hlt:=(Array.getElem?_eq_some_iff.1 hw).1
 have hkill:=h.kill halive
 have hnext:(H.set b .none).next=H.next:=Heap.next_set _ _ _
 have hnotheld:¬Held ρ (H.set b .none) p.c:=by
  rintro⟨b',q,hb',hq,hqc⟩
  by_cases e:b'=b
  · subst e;rw[Heap.get_set_same H _ halive]at hb';exact hb' rfl
  · rw[Heap.get_set_ne H _ e]at hb'
    exact e (h.inj b' b q p hb' halive hq hp hqc)
 have hother:∀c,c≠p.c → (withObj w p.c (.cells cells' e fr)).heap[c]?=w.heap[c]?:=fun c hne=>by
  rw[withObj_heap _ _ _ _ hlt,if_neg hne]
 have hle:ρ.le (ρ.put H.next ⟨p.c,p.s+o,p.z-o,k⟩):=Rho.le_put (h.fresh _ (Nat.le_refl _))
 have hobj:ObjAt (ρ.put H.next ⟨p.c,p.s+o,p.z-o,k⟩) (withObj w p.c (.cells cells' e fr)) H.next (.cells R' k):=by
  refine⟨_,Rho.put_same _ _ _,rfl,_,e,fr,by rw[withObj_heap _ _ _ _ hlt,if_pos rfl],by simp only;omega,by simp only[<-hR.1];omega,fun h0=>absurd h0 hk,fun o ho=>hfz o (by rw[<-hsz];exact ho.resolve_right hk),fun i v' hv=>?_⟩
  obtain⟨v,a,b'⟩:=hR.get hv
  exact⟨v,hat i v a,b'.mono hle⟩
 have hadd:=hkill.addObj (p:=⟨p.c,p.s+o,p.z-o,k⟩) (o:=.cells R' k) (w':=withObj w p.c (.cells cells' e fr)) hnotheld
  (fun c hc=>hother c (fun e=>hnotheld (e▸hc))) (by rw[hnext];exact hobj)
 rw[hnext]at hadd
 refine⟨hadd,?_⟩
 exact { le:=hle,size:=by rw[withObj_size];exact Nat.le_refl _,keep:=fun c _ hnh=>hother c (fun e=>hnh ⟨b,p,halive,hp,e.symm⟩),
         range:=fun c hh=>by
          have hh:Held (ρ.put (H.set b .none).next ⟨p.c,p.s+o,p.z-o,k⟩) ((H.set b .none).add (.cells R' k)) c:=by rw[hnext];exact hh
          rcases Held.add hh with e|hh
          · exact .inr ⟨b,p,halive,hp,e.symm⟩
          · exact .inr (Held.set halive hh),
         dom:=fun x q hq=>by
          by_cases e:x=H.next
          · exact .inr (by omega)
          · rw[Rho.put_ne _ _ e]at hq;exact .inl hq
         next:=by show H.next<=((H.set b .none).add _).next;rw[Heap.next_add,hnext];omega,tape:=rfl,os:=rfl,output:=rfl,same:=Shape.of_cells hother hw (by rw[withObj_heap _ _ _ _ hlt,if_pos rfl]) }
theorem rewrite_near (h:HR E.ng ρ H w) {b o:Nat} {p:Pl} {R R':List Value} {cells:Array Value} {e:TypeId} {fr:Nat × Nat} (hp:ρ b=some p) (hr:writeCells H b o R'=some H') (hR:LR ρ R R') (h1:∀v ∈ R,oneCell v=true)
 (hw:w.heap[p.c]?=some (.cells cells e fr)) (hfz:∀o,o<cells.size->¬(fr.1<=o/\o<fr.2)) (hfit:p.s+o+R.length<=cells.size):
 HR E.ng ρ H' (withObj w p.c (.cells (splice cells (p.s+o) R) e fr))/\Ext ρ H w ρ H' (withObj w p.c (.cells (splice cells (p.s+o) R) e fr)):=by
 obtain⟨w',g1,g2⟩:=write_cells h hp hr hR h1
 have hrun:=run_store_cells (P:=E.P) (p.s+o) R 0 cells w hw (by omega) hfz h1
 rw[g1]at hrun
 have:w'=withObj w p.c (.cells (splice cells (p.s+o) R) e fr):=by injection hrun
 rw[<-this];exact g2
theorem run_copy_obj {P:Program} (w:World) (dT sT ty elem:TypeId) (size:Nat) (hu:P.underlying dT=some (.slice elem)) (hs:(P.info? elem).map (·.size)=some size) {c q dLen dCap sLen sCap:Nat} {a:Addr} {cs:List Value} {cells:Array Value} {e:TypeId} {fr:Nat × Nat}
 (hn:cs.length=Nat.min sLen dLen*size) (hsrc:∀j v,cs[j]?=some v->w.cell? (a.add j)=some v) (hc:w.heap[c]?=some (.cells cells e fr)) (hfit:q+cs.length<=cells.size) (hfz:∀o,o<cells.size->¬(fr.1<=o/\o<fr.2)) (h1:∀v ∈ cs,oneCell v=true):
 (Builtin.copy_ #[dT,sT] ty #[.slice (some ⟨c,q,none⟩) dLen dCap,.slice (some a) sLen sCap]).run P w=.ok (goInt (Nat.min sLen dLen)) (withObj w c (.cells (splice cells q cs) e fr)):=by
 have hfirst:=run_firstCells_some (P:=P) (w:=w) size (Nat.min sLen dLen) a sLen sCap cs hn hsrc
 have hst:=run_store_cells (P:=P) q cs 0 cells w hc (by omega) hfz h1
 cases hq:P.info? elem with
 | none=>simp[hq]at hs
 | some i=>
   have hi:i.size=size:=by simpa[hq] using hs
   have hso:(Go.sizeOf elem).run P w=.ok size w:=by simp only[Go.sizeOf,Sem.run_bind,runTI hq,Result.andThen,hi];rfl
   simp only[Builtin.copy_,Builtin.lenOf,Sem.run_bind,Sem.run_pure,Result.andThen,run_underlying hu w,hso]
   simp[run_underlying hu w,hso,hfirst,Result.andThen,hst]
end Ex
namespace Go.Proofs.YtbhnjkegkadodaaGreatDoor
open Go Go.Shelf Go.RowKit Go.Lib Go.Proofs Ex
theorem ins197_shift (w:World) {c q n cap i vb vo m vc:Nat} {cells:Array Value} {e:TypeId} {fr:Nat × Nat} {old new:List Value} (hi:i<n) (hm:0<m) (hroom:n+m<=cap) (hbig:n+m<=1048576) (hvb:vb≠c)
 (hc:w.heap[c]?=some (.cells cells e fr)) (hfz:∀o,o<cells.size->¬(fr.1<=o/\o<fr.2)) (hol:old.length=n*2) (hnl:new.length=m*2) (hold:∀j v,old[j]?=some v->cells[q+j]?=some v) (hfit:q+(n+m)*2<=cells.size)
 (hnew:∀j v,new[j]?=some v->w.cell? ⟨vb,vo+j,none⟩=some v) (h1o:∀v ∈ old,oneCell v=true) (h1n:∀v ∈ new,oneCell v=true)
 (tA tB:TypeId) (kA kB:Nat) (hsa:w.shape? vb=some (tA,kA)) (hsb:w.shape? c=some (tB,kB)) (hkB:kB≠0) (hfa:w.frozen? ⟨vb,vo,none⟩=false) (hfe:w.frozen? ⟨vb,kA,none⟩=false):
 Calls Tryz.prog 197 #[.slice (some ⟨c,q,none⟩) n cap,.int .i64 i,.slice (some ⟨vb,vo,none⟩) m vc] w fun x w'=>
  x=.returned (.slice (some ⟨c,q,none⟩) (n+m) cap)/\w'=withObj w.drew c (.cells (splice (splice cells (q+(i+m)*2) (old.drop (i*2))) (q+i*2) new) e fr):=by
 have hz1:¬((m:Int)=0):=by omega
 have hz2:¬((i:Int)=(n:Int)):=by omega
 have hov:∀lb cb,(callFunc 236 #[.slice (some ⟨vb,vo,none⟩) m vc,.slice (some ⟨c,q+(i+m)*2,none⟩) lb cb]).run Tryz.prog w=.ok (.value (.bool false)) w:=fun lb cb=>by
  rw[run_callFunc_extern Tryz.func236 (by kernel_rfl) (by kernel_rfl) (by kernel_rfl) (e:=Extern.SlicesOverlaps.overlaps #[251,251] #[4]) (by kernel_rfl),
   Lib.run_overlaps_apart w 251 4 182 Tryz.underlying251 2 (fun w=>by kernel_rfl) ⟨vb,vo,none⟩ ⟨c,q+(i+m)*2,none⟩ m vc lb cb hvb tA tB kA kB hsa hsb hkB hfa hfe]
  rfl
 have hs:(Tryz.prog.info? 182).map (·.size)=some 2:=by kernel_rfl
 have hw1:IntKind.i64.wrap ((i:Int)+(m:Int))=(i:Int)+(m:Int):=by rw[IntKind.wrap_i64];omega
 have hb1:(0:Int)<=(i:Int)+(m:Int):=by omega
 have hin:i<=n:=by omega
 have htn:((i:Int)+(m:Int)).toNat=i+m:=by omega
 have hb2:¬(cap=i+m):=by omega
 have hb3:(i:Int)<=(n:Int)+(m:Int):=by omega
 have hb4:¬(cap=i):=by omega
 have hlt:c<w.drew.heap.size:=(Array.getElem?_eq_some_iff.1 hc).1
 have hdl:(old.drop (i*2)).length=(n-i)*2:=by rw[List.length_drop,hol];omega
 have hcell:∀(W:World) (X:Array Value),W.heap[c]?=some (.cells X e fr)->∀k v,X[k]?=some v->W.cell? ⟨c,k,none⟩=some v:=fun W X h k v hk=>by simp[World.cell?,h,hk]
 have hcd:w.drew.heap[c]?=some (.cells cells e fr):=hc
 have hcp1:∀ty dc sc,(Builtin.copy_ #[251,251] ty #[.slice (some ⟨c,q+(i+m)*2,none⟩) (n+m-(i+m)) dc,.slice (some ⟨c,q+i*2,none⟩) (n+m-i) sc]).run Tryz.prog w.drew=.ok (goInt (Nat.min (n+m-i) (n+m-(i+m)))) (withObj w.drew c (.cells (splice cells (q+(i+m)*2) (old.drop (i*2))) e fr)):=fun ty dc sc=>
  run_copy_obj w.drew 251 251 ty 182 2 Tryz.underlying251 hs (by rw[hdl];simp only[Nat.min_def];split<;>omega)
   (fun j v hj=>by
     rw[List.getElem?_drop]at hj
     rw[Addr.add_lit]
     exact hcell _ _ hcd _ _ (by rw[Nat.add_assoc];exact hold _ _ hj)) hcd (by rw[hdl];omega) hfz (fun v hv=>h1o v (List.mem_of_mem_drop hv))
 obtain⟨W1,hW1⟩:∃W1,W1=withObj w.drew c (.cells (splice cells (q+(i+m)*2) (old.drop (i*2))) e fr):=⟨_,rfl⟩
 have hc1:W1.heap[c]?=some (.cells (splice cells (q+(i+m)*2) (old.drop (i*2))) e fr):=by rw[hW1,withObj_heap _ _ _ _ hlt,if_pos rfl]
 have hcp2:∀(W:World),W.heap=W1.heap->∀ty dc,(Builtin.copy_ #[251,251] ty #[.slice (some ⟨c,q+i*2,none⟩) (n+m-i) dc,.slice (some ⟨vb,vo,none⟩) m vc]).run Tryz.prog W=.ok (goInt (Nat.min m (n+m-i))) (withObj W c (.cells (splice (splice cells (q+(i+m)*2) (old.drop (i*2))) (q+i*2) new) e fr)):=fun W hW ty dc=>
  run_copy_obj W 251 251 ty 182 2 Tryz.underlying251 hs (by rw[hnl];simp only[Nat.min_def];split<;>omega)
   (fun j v hj=>by
     rw[Addr.add_lit]
     have:=hnew j v hj
     simp only[World.cell?]at this ⊢
     rw[hW,hW1,withObj_heap _ _ _ _ hlt,if_neg hvb]
     exact this) (by rw[hW];exact hc1) (by rw[hnl,splice_size];omega) (by rw[splice_size];exact hfz) h1n
 rw[<-hW1]at hcp1
 have mixed:Tryz.prog.follows .mixedOrders=true:=by kernel_rfl
 go_enter Tryz.func197,Tryz.ntmps197
 go_wp2_with (simp only[hov])
 go_region_law_o (refine step_copy_runI rfl _ _ 251 251 rfl _ _ (by simp[Act.eval,Act.put]) (by simp[Act.eval,Act.put]) (hcp1 _ _ _) ?_)
 go_wp2_with (at_builtin;refine wpList_copy_runI _ rfl _ _ 251 251 rfl _ _ rfl rfl (hcp2 _ rfl _ _) ?_)
 go_ret
 exact⟨rfl,by first|rw[withObj_twice]|rw[hW1,withObj_twice]⟩
theorem push_set {α:Type} (a:Array α) (x y:α):(a.push x).setIfInBounds a.size y=a.push y:=by
 apply Array.ext'
 simp
theorem push_twice (a:Array Obj) (x y z:Obj):((a.push x).setIfInBounds a.size y).setIfInBounds a.size z=a.push z:=by
 rw[push_set,push_set]
theorem ins197_grow (w:World) {c q n cap i vb vo m vc:Nat} {cells:Array Value} {e:TypeId} {fr:Nat × Nat} {old new:List Value} (hi:i<n) (hm:0<m) (hnc:n<=cap) (hroom:cap<n+m) (hbig:n+m<=1048576)
 (hc:w.heap[c]?=some (.cells cells e fr)) (hol:old.length=n*2) (hnl:new.length=m*2) (hold:∀j v,old[j]?=some v->cells[q+j]?=some v)
 (hnew:∀j v,new[j]?=some v->w.cell? ⟨vb,vo+j,none⟩=some v) (h1o:∀v ∈ old,oneCell v=true) (h1n:∀v ∈ new,oneCell v=true):
 Calls Tryz.prog 197 #[.slice (some ⟨c,q,none⟩) n cap,.int .i64 i,.slice (some ⟨vb,vo,none⟩) m vc] w fun x w'=>
  ∃(ROW:Array Value) (G:Nat),G<=9223372036854775807/\n+m<=G/\ROW.size=G*2/\(∀j v,j<i*2->old[j]?=some v->ROW[j]?=some v)/\x=.returned (.slice (some ⟨w.heap.size,0,none⟩) (n+m) G) /\
  w'.heap=w.heap.push (.cells (splice (splice ROW (i*2) new) ((i+m)*2) (old.drop (i*2))) 182)/\w'.tape=w.tape/\w'.os=w.os/\w'.output=w.output:=by
 have hinfo:(Tryz.prog.info? 182).map (fun x=>(x.zero,x.size,x.bytes))=some (some (.agg #[.slice none 0 0,.slice none 0 0]),2,48):=by kernel_rfl
 obtain⟨i0,hi0,hz0,hzs,hzb⟩:∃i0,Tryz.prog.info? 182=some i0/\i0.zero=some (.agg #[.slice none 0 0,.slice none 0 0])/\i0.size=2/\i0.bytes=48:=by
  cases hq:Tryz.prog.info? 182 with
  | none=>rw[hq]at hinfo;cases hinfo
  | some i0=>
    rw[hq]at hinfo
    simp only[Option.map_some,Option.some.injEq,Prod.mk.injEq]at hinfo
    exact⟨i0,rfl,hinfo.1,hinfo.2.1,hinfo.2.2⟩
 have hz1:¬((m:Int)=0):=by omega
 have hz2:¬((i:Int)=(n:Int)):=by omega
 have hz3:(cap:Int)<(n:Int)+(m:Int):=by omega
 have hs:(Tryz.prog.info? 182).map (·.size)=some 2:=by rw[hi0];simp[hzs]
 have hlt:c<w.heap.size:=(Array.getElem?_eq_some_iff.1 hc).1
 have hvw:vb<w.heap.size:=by
  obtain⟨v,hv⟩:∃v,new[0]?=some v:=⟨_,List.getElem?_eq_getElem (by omega)⟩
  exact block_lt_of_cell (hnew 0 v hv)
 have hkk:(n:Int)+(m:Int)-(i:Int)=((n+m-i:Nat):Int):=by omega
 have hik:i+(n+m-i)=n+m:=by omega
 have hcell:∀(W:World) (d:Nat) (X:Array Value) (e:TypeId) (fr:Nat × Nat),W.heap[d]?=some (.cells X e fr)->∀k v,X[k]?=some v->W.cell? ⟨d,k,none⟩=some v:=fun W d X e fr h k v hk=>by simp[World.cell?,h,hk]
 have hfirst:(Builtin.firstCells i0.size i (.slice (some ⟨c,q,none⟩) i cap)).run Tryz.prog w.drew=.ok (old.take (i*2)).toArray w.drew:=by
  rw[hzs]
  exact run_firstCells_some w.drew 2 i ⟨c,q,none⟩ i cap (old.take (i*2)) (by rw[List.length_take];omega) (fun j v hj=>by
   rw[Addr.add_lit]
   rw[List.getElem?_take]at hj
   split at hj
   · exact hcell w c cells e fr hc _ _ (hold j v hj)
   · cases hj)
 have hrz:∀ty,(Builtin.append_ #[251,3] ty #[.slice (some ⟨c,q,none⟩) i cap,.int .i64 ((n:Int)+(m:Int)-(i:Int))]).run Tryz.prog w =
    .ok (.slice (some ⟨w.heap.size,0,none⟩) (n+m) (grownCap w (n+m) cap 182)) (w.drew.alloc (.cells ((old.take (i*2)).toArray ++ Builtin.zeroCells (Value.agg #[.slice none 0 0,.slice none 0 0]).cells (n+m-i) ++ Builtin.zeroCells (Value.agg #[.slice none 0 0,.slice none 0 0]).cells (grownCap w (n+m) cap 182-(n+m))) 182)):=fun ty=>by
  have h:=Lib.run_append_grow_zeros w 251 3 ty 182 i0 _ .i64 .i64 Tryz.underlying251 Tryz.underlying3 hi0 hz0 (some ⟨c,q,none⟩) i cap (old.take (i*2)) hfirst (n+m-i) (by omega) (by omega) (by omega) (by omega) (by rw[hzb];omega) (by rw[hzb,hik];exact growslice_fits hroom (by omega))
  rw[hik]at h
  rw[hkk]
  exact h
 have hGn:n+m<=grownCap w (n+m) cap 182:=grownCap_ge w _ _ _
 have hG63:grownCap w (n+m) cap 182<=9223372036854775807:=by
  have:=grownCap_le_maxLen w (n+m) cap 182 (by unfold maxLen;omega)
  unfold maxLen at this
  omega
 obtain⟨G,hG⟩:∃G,G=grownCap w (n+m) cap 182:=⟨_,rfl⟩
 obtain⟨ROW,hROW⟩:∃ROW:Array Value,ROW=(old.take (i*2)).toArray ++ Builtin.zeroCells (Value.agg #[.slice none 0 0,.slice none 0 0]).cells (n+m-i) ++ Builtin.zeroCells (Value.agg #[.slice none 0 0,.slice none 0 0]).cells (G-(n+m)):=⟨_,rfl⟩
 rw[<-hG]at hrz hGn hG63
 rw[<-hROW]at hrz
 have hzl:∀k,(Builtin.zeroCells (Value.agg #[.slice none 0 0,.slice none 0 0]).cells k).size=k*2:=fun k=>by
  simp[Builtin.zeroCells,Value.cells]
 have hRs:ROW.size=G*2:=by
  rw[hROW]
  simp only[Array.size_append,hzl,List.size_toArray,List.length_take]
  omega
 have hN:ROW.size=G*2:=hRs
 obtain⟨W1,hW1⟩:∃W1,W1=w.drew.alloc (.cells ROW 182):=⟨_,rfl⟩
 rw[<-hW1]at hrz
 have hc1:W1.heap[w.heap.size]?=some (.cells ROW 182):=by rw[hW1];exact alloc_new w.drew _
 have hother:∀d,d<w.heap.size->W1.heap[d]?=w.heap[d]?:=fun d hd=>by
  rw[hW1];show(w.heap.push _)[d]?=_;rw[Array.getElem?_push_lt hd];simp[hd]
 have hcpA:∀(W:World),W.heap=W1.heap->∀ty dc,(Builtin.copy_ #[251,251] ty #[.slice (some ⟨w.heap.size,i*2,none⟩) (n+m-i) dc,.slice (some ⟨vb,vo,none⟩) m vc]).run Tryz.prog W=.ok (goInt (Nat.min m (n+m-i))) (withObj W w.heap.size (.cells (splice ROW (i*2) new) 182)):=fun W hW ty dc=>
  run_copy_obj W 251 251 ty 182 2 Tryz.underlying251 hs (by rw[hnl];simp only[Nat.min_def];split<;>omega)
   (fun j v hj=>by
     rw[Addr.add_lit]
     have:=hnew j v hj
     simp only[World.cell?]at this ⊢
     rw[hW,hother vb hvw]
     exact this) (by rw[hW];exact hc1) (by rw[hnl,hN];omega) (fun o _=>by simp) h1n
 have hdl:(old.drop (i*2)).length=(n-i)*2:=by rw[List.length_drop,hol];omega
 have hcpB:∀(W:World),W.heap=(withObj W1 w.heap.size (.cells (splice ROW (i*2) new) 182)).heap->∀ty dc sc,(Builtin.copy_ #[251,251] ty #[.slice (some ⟨w.heap.size,(i+m)*2,none⟩) (n+m-(i+m)) dc,.slice (some ⟨c,q+i*2,none⟩) (n-i) sc]).run Tryz.prog W=.ok (goInt (Nat.min (n-i) (n+m-(i+m)))) (withObj W w.heap.size (.cells (splice (splice ROW (i*2) new) ((i+m)*2) (old.drop (i*2))) 182)):=fun W hW ty dc sc=>
  have hlt1:w.heap.size<W1.heap.size:=(Array.getElem?_eq_some_iff.1 hc1).1
  run_copy_obj W 251 251 ty 182 2 Tryz.underlying251 hs (by rw[hdl];simp only[Nat.min_def];split<;>omega)
   (fun j v hj=>by
     rw[List.getElem?_drop]at hj
     rw[Addr.add_lit]
     refine hcell W c cells e fr ?_ _ _ (by rw[Nat.add_assoc];exact hold _ _ hj)
     rw[hW,withObj_heap _ _ _ _ hlt1,if_neg (by omega),hother c hlt];exact hc) (by rw[hW,withObj_heap _ _ _ _ hlt1,if_pos rfl]) (by rw[hdl,splice_size,hN];omega) (fun o _=>by simp) (fun v hv=>h1o v (List.mem_of_mem_drop hv))
 have hGi:¬(G=i):=by omega
 have hGim:¬(G=i+m):=by omega
 have hci:¬(cap=i):=by omega
 have hw1:IntKind.i64.wrap ((i:Int)+(m:Int))=(i:Int)+(m:Int):=by rw[IntKind.wrap_i64];omega
 have hb1:(0:Int)<=(i:Int)+(m:Int):=by omega
 have hin:i<=n:=by omega
 have htn:((i:Int)+(m:Int)).toNat=i+m:=by omega
 have hb3:(i:Int)<=(n:Int):=by omega
 have mixed:Tryz.prog.follows .mixedOrders=true:=by kernel_rfl
 have hROWold:∀j v,j<i*2->old[j]?=some v->ROW[j]?=some v:=fun j v hj hv=>by
  rw[hROW]
  have hl:(old.take (i*2)).length=i*2:=by rw[List.length_take,hol];omega
  rw[Array.getElem?_append_left (by simp[hol];omega),Array.getElem?_append_left (by simp[hol];omega)]
  simp[List.getElem?_take,hj,hv]
 clear hkk hik hROW hG
 go_enter Tryz.func197,Tryz.ntmps197
 go_wp2_with (first
  | (at_builtin;refine Lib.wpList_append_run _ rfl _ _ _ _ rfl _ _ rfl rfl _ _ (hrz _) ?_)
  | (at_builtin;refine wpList_copy_runI _ rfl _ _ 251 251 rfl _ _ rfl rfl (hcpA _ rfl _ _) ?_))
 go_region_law_o (refine step_copy_runI rfl _ _ 251 251 rfl (.slice (some ⟨w.heap.size,(i+m)*2,none⟩) (n+m-(i+m)) (G-(i+m))) (.slice (some ⟨c,q+i*2,none⟩) (n-i) (cap-i)) (by simp[Act.eval,Act.put]) (by simp[Act.eval,Act.put]) (hcpB ((withObj (w.alloc (.cells ROW 182)).drew w.heap.size (.cells (splice ROW (i*2) new) 182)).drew) (by rw[hW1];rfl) 3 (G-(i+m)) (cap-i)) ?_)
 go_wp2
 go_ret
 refine⟨ROW,G,hG63,hGn,hRs,hROWold,rfl,?_,rfl,rfl,rfl⟩
 exact push_twice w.heap _ _ _
theorem ins197_end (w w1:World) {c q n cap vb vo m vc:Nat} {r:Value} (hm:0<m) (hnc:n<=cap)
 (hr:(Builtin.append_ #[251,251] 251 #[.slice (some ⟨c,q,none⟩) n cap,.slice (some ⟨vb,vo,none⟩) m vc]).run Tryz.prog w=.ok r w1):
 Calls Tryz.prog 197 #[.slice (some ⟨c,q,none⟩) n cap,.int .i64 n,.slice (some ⟨vb,vo,none⟩) m vc] w fun x w'=>x=.returned r/\w'=w1:=by
 have hz1:¬((m:Int)=0):=by omega
 go_enter Tryz.func197,Tryz.ntmps197
 go_wp2_with (at_builtin;refine Lib.wpList_append_run _ rfl _ _ _ _ rfl _ _ rfl rfl _ _ hr ?_)
 all_goals go_ret
 all_goals exact⟨rfl,rfl⟩
theorem ins199_shift (w:World) {c q n cap i vb vo m vc:Nat} {cells:Array Value} {e:TypeId} {fr:Nat × Nat} {old new:List Value} (hi:i<n) (hm:0<m) (hroom:n+m<=cap) (hbig:n+m<=1048576) (hvb:vb≠c)
 (hc:w.heap[c]?=some (.cells cells e fr)) (hfz:∀o,o<cells.size->¬(fr.1<=o/\o<fr.2)) (hol:old.length=n) (hnl:new.length=m) (hold:∀j v,old[j]?=some v->cells[q+j]?=some v) (hfit:q+(n+m)<=cells.size)
 (hnew:∀j v,new[j]?=some v->w.cell? ⟨vb,vo+j,none⟩=some v) (h1o:∀v ∈ old,oneCell v=true) (h1n:∀v ∈ new,oneCell v=true)
 (tA tB:TypeId) (kA kB:Nat) (hsa:w.shape? vb=some (tA,kA)) (hsb:w.shape? c=some (tB,kB)) (hkB:kB≠0) (hfa:w.frozen? ⟨vb,vo,none⟩=false) (hfe:w.frozen? ⟨vb,kA,none⟩=false):
 Calls Tryz.prog 199 #[.slice (some ⟨c,q,none⟩) n cap,.int .i64 i,.slice (some ⟨vb,vo,none⟩) m vc] w fun x w'=>
  x=.returned (.slice (some ⟨c,q,none⟩) (n+m) cap)/\w'=withObj w.drew c (.cells (splice (splice cells (q+(i+m)) (old.drop (i))) (q+i) new) e fr):=by
 have hz1:¬((m:Int)=0):=by omega
 have hz2:¬((i:Int)=(n:Int)):=by omega
 have hov:∀lb cb,(callFunc 238 #[.slice (some ⟨vb,vo,none⟩) m vc,.slice (some ⟨c,q+(i+m),none⟩) lb cb]).run Tryz.prog w=.ok (.value (.bool false)) w:=fun lb cb=>by
  rw[run_callFunc_extern Tryz.func238 (by kernel_rfl) (by kernel_rfl) (by kernel_rfl) (e:=Extern.SlicesOverlaps.overlaps #[170,170] #[4]) (by kernel_rfl),
   Lib.run_overlaps_apart w 170 4 251 Tryz.underlying170 1 (fun w=>by kernel_rfl) ⟨vb,vo,none⟩ ⟨c,q+(i+m),none⟩ m vc lb cb hvb tA tB kA kB hsa hsb hkB hfa hfe]
  rfl
 have hs:(Tryz.prog.info? 251).map (·.size)=some 1:=by kernel_rfl
 have hw1:IntKind.i64.wrap ((i:Int)+(m:Int))=(i:Int)+(m:Int):=by rw[IntKind.wrap_i64];omega
 have hb1:(0:Int)<=(i:Int)+(m:Int):=by omega
 have hin:i<=n:=by omega
 have htn:((i:Int)+(m:Int)).toNat=i+m:=by omega
 have hb2:¬(cap=i+m):=by omega
 have hb3:(i:Int)<=(n:Int)+(m:Int):=by omega
 have hb4:¬(cap=i):=by omega
 have hlt:c<w.drew.heap.size:=(Array.getElem?_eq_some_iff.1 hc).1
 have hdl:(old.drop (i)).length=(n-i):=by rw[List.length_drop,hol]
 have hcell:∀(W:World) (X:Array Value),W.heap[c]?=some (.cells X e fr)->∀k v,X[k]?=some v->W.cell? ⟨c,k,none⟩=some v:=fun W X h k v hk=>by simp[World.cell?,h,hk]
 have hcd:w.drew.heap[c]?=some (.cells cells e fr):=hc
 have hcp1:∀ty dc sc,(Builtin.copy_ #[170,170] ty #[.slice (some ⟨c,q+(i+m),none⟩) (n+m-(i+m)) dc,.slice (some ⟨c,q+i,none⟩) (n+m-i) sc]).run Tryz.prog w.drew=.ok (goInt (Nat.min (n+m-i) (n+m-(i+m)))) (withObj w.drew c (.cells (splice cells (q+(i+m)) (old.drop (i))) e fr)):=fun ty dc sc=>
  run_copy_obj w.drew 170 170 ty 251 1 Tryz.underlying170 hs (by rw[hdl];simp only[Nat.min_def];split<;>omega)
   (fun j v hj=>by
     rw[List.getElem?_drop]at hj
     rw[Addr.add_lit]
     exact hcell _ _ hcd _ _ (by rw[Nat.add_assoc];exact hold _ _ hj)) hcd (by rw[hdl];omega) hfz (fun v hv=>h1o v (List.mem_of_mem_drop hv))
 obtain⟨W1,hW1⟩:∃W1,W1=withObj w.drew c (.cells (splice cells (q+(i+m)) (old.drop (i))) e fr):=⟨_,rfl⟩
 have hc1:W1.heap[c]?=some (.cells (splice cells (q+(i+m)) (old.drop (i))) e fr):=by rw[hW1,withObj_heap _ _ _ _ hlt,if_pos rfl]
 have hcp2:∀(W:World),W.heap=W1.heap->∀ty dc,(Builtin.copy_ #[170,170] ty #[.slice (some ⟨c,q+i,none⟩) (n+m-i) dc,.slice (some ⟨vb,vo,none⟩) m vc]).run Tryz.prog W=.ok (goInt (Nat.min m (n+m-i))) (withObj W c (.cells (splice (splice cells (q+(i+m)) (old.drop (i))) (q+i) new) e fr)):=fun W hW ty dc=>
  run_copy_obj W 170 170 ty 251 1 Tryz.underlying170 hs (by rw[hnl];simp only[Nat.min_def];split<;>omega)
   (fun j v hj=>by
     rw[Addr.add_lit]
     have:=hnew j v hj
     simp only[World.cell?]at this ⊢
     rw[hW,hW1,withObj_heap _ _ _ _ hlt,if_neg hvb]
     exact this) (by rw[hW];exact hc1) (by rw[hnl,splice_size];omega) (by rw[splice_size];exact hfz) h1n
 rw[<-hW1]at hcp1
 have mixed:Tryz.prog.follows .mixedOrders=true:=by kernel_rfl
 go_enter Tryz.func199,Tryz.ntmps199
 go_wp2_with (simp only[hov])
 go_region_law_o (refine step_copy_runI rfl _ _ 170 170 rfl _ _ (by simp[Act.eval,Act.put]) (by simp[Act.eval,Act.put]) (hcp1 _ _ _) ?_)
 go_wp2_with (at_builtin;refine wpList_copy_runI _ rfl _ _ 170 170 rfl _ _ rfl rfl (hcp2 _ rfl _ _) ?_)
 go_ret
 exact⟨rfl,by first|rw[withObj_twice]|rw[hW1,withObj_twice]⟩
theorem ins199_grow (w:World) {c q n cap i vb vo m vc:Nat} {cells:Array Value} {e:TypeId} {fr:Nat × Nat} {old new:List Value} (hi:i<n) (hm:0<m) (hnc:n<=cap) (hroom:cap<n+m) (hbig:n+m<=1048576)
 (hc:w.heap[c]?=some (.cells cells e fr)) (hol:old.length=n) (hnl:new.length=m) (hold:∀j v,old[j]?=some v->cells[q+j]?=some v)
 (hnew:∀j v,new[j]?=some v->w.cell? ⟨vb,vo+j,none⟩=some v) (h1o:∀v ∈ old,oneCell v=true) (h1n:∀v ∈ new,oneCell v=true):
 Calls Tryz.prog 199 #[.slice (some ⟨c,q,none⟩) n cap,.int .i64 i,.slice (some ⟨vb,vo,none⟩) m vc] w fun x w'=>
  ∃(ROW:Array Value) (G:Nat),G<=9223372036854775807/\n+m<=G/\ROW.size=G/\(∀j v,j<i->old[j]?=some v->ROW[j]?=some v)/\x=.returned (.slice (some ⟨w.heap.size,0,none⟩) (n+m) G) /\
  w'.heap=w.heap.push (.cells (splice (splice ROW (i) new) ((i+m)) (old.drop (i))) 251)/\w'.tape=w.tape/\w'.os=w.os/\w'.output=w.output:=by
 have hinfo:(Tryz.prog.info? 251).map (fun x=>(x.zero,x.size,x.bytes))=some (some (.slice none 0 0),1,24):=by kernel_rfl
 obtain⟨i0,hi0,hz0,hzs,hzb⟩:∃i0,Tryz.prog.info? 251=some i0/\i0.zero=some (.slice none 0 0)/\i0.size=1/\i0.bytes=24:=by
  cases hq:Tryz.prog.info? 251 with
  | none=>rw[hq]at hinfo;cases hinfo
  | some i0=>
    rw[hq]at hinfo
    simp only[Option.map_some,Option.some.injEq,Prod.mk.injEq]at hinfo
    exact⟨i0,rfl,hinfo.1,hinfo.2.1,hinfo.2.2⟩
 have hz1:¬((m:Int)=0):=by omega
 have hz2:¬((i:Int)=(n:Int)):=by omega
 have hz3:(cap:Int)<(n:Int)+(m:Int):=by omega
 have hs:(Tryz.prog.info? 251).map (·.size)=some 1:=by rw[hi0];simp[hzs]
 have hlt:c<w.heap.size:=(Array.getElem?_eq_some_iff.1 hc).1
 have hvw:vb<w.heap.size:=by
  obtain⟨v,hv⟩:∃v,new[0]?=some v:=⟨_,List.getElem?_eq_getElem (by omega)⟩
  exact block_lt_of_cell (hnew 0 v hv)
 have hkk:(n:Int)+(m:Int)-(i:Int)=((n+m-i:Nat):Int):=by omega
 have hik:i+(n+m-i)=n+m:=by omega
 have hcell:∀(W:World) (d:Nat) (X:Array Value) (e:TypeId) (fr:Nat × Nat),W.heap[d]?=some (.cells X e fr)->∀k v,X[k]?=some v->W.cell? ⟨d,k,none⟩=some v:=fun W d X e fr h k v hk=>by simp[World.cell?,h,hk]
 have hfirst:(Builtin.firstCells i0.size i (.slice (some ⟨c,q,none⟩) i cap)).run Tryz.prog w.drew=.ok (old.take (i)).toArray w.drew:=by
  rw[hzs]
  exact run_firstCells_some w.drew 1 i ⟨c,q,none⟩ i cap (old.take (i)) (by rw[List.length_take];omega) (fun j v hj=>by
   rw[Addr.add_lit]
   rw[List.getElem?_take]at hj
   split at hj
   · exact hcell w c cells e fr hc _ _ (hold j v hj)
   · cases hj)
 have hrz:∀ty,(Builtin.append_ #[170,3] ty #[.slice (some ⟨c,q,none⟩) i cap,.int .i64 ((n:Int)+(m:Int)-(i:Int))]).run Tryz.prog w =
    .ok (.slice (some ⟨w.heap.size,0,none⟩) (n+m) (grownCap w (n+m) cap 251)) (w.drew.alloc (.cells ((old.take (i)).toArray ++ Builtin.zeroCells (Value.slice none 0 0).cells (n+m-i) ++ Builtin.zeroCells (Value.slice none 0 0).cells (grownCap w (n+m) cap 251-(n+m))) 251)):=fun ty=>by
  have h:=Lib.run_append_grow_zeros w 170 3 ty 251 i0 _ .i64 .i64 Tryz.underlying170 Tryz.underlying3 hi0 hz0 (some ⟨c,q,none⟩) i cap (old.take (i)) hfirst (n+m-i) (by omega) (by omega) (by omega) (by omega) (by rw[hzb];omega) (by rw[hzb,hik];exact growslice_fits hroom (by omega))
  rw[hik]at h
  rw[hkk]
  exact h
 have hGn:n+m<=grownCap w (n+m) cap 251:=grownCap_ge w _ _ _
 have hG63:grownCap w (n+m) cap 251<=9223372036854775807:=by
  have:=grownCap_le_maxLen w (n+m) cap 251 (by unfold maxLen;omega)
  unfold maxLen at this
  omega
 obtain⟨G,hG⟩:∃G,G=grownCap w (n+m) cap 251:=⟨_,rfl⟩
 obtain⟨ROW,hROW⟩:∃ROW:Array Value,ROW=(old.take (i)).toArray ++ Builtin.zeroCells (Value.slice none 0 0).cells (n+m-i) ++ Builtin.zeroCells (Value.slice none 0 0).cells (G-(n+m)):=⟨_,rfl⟩
 rw[<-hG]at hrz hGn hG63
 rw[<-hROW]at hrz
 have hzl:∀k,(Builtin.zeroCells (Value.slice none 0 0).cells k).size=k:=fun k=>by
  simp[Builtin.zeroCells,Value.cells]
 have hRs:ROW.size=G:=by
  rw[hROW]
  simp only[Array.size_append,hzl,List.size_toArray,List.length_take]
  omega
 have hN:ROW.size=G:=hRs
 obtain⟨W1,hW1⟩:∃W1,W1=w.drew.alloc (.cells ROW 251):=⟨_,rfl⟩
 rw[<-hW1]at hrz
 have hc1:W1.heap[w.heap.size]?=some (.cells ROW 251):=by rw[hW1];exact alloc_new w.drew _
 have hother:∀d,d<w.heap.size->W1.heap[d]?=w.heap[d]?:=fun d hd=>by
  rw[hW1];show(w.heap.push _)[d]?=_;rw[Array.getElem?_push_lt hd];simp[hd]
 have hcpA:∀(W:World),W.heap=W1.heap->∀ty dc,(Builtin.copy_ #[170,170] ty #[.slice (some ⟨w.heap.size,i,none⟩) (n+m-i) dc,.slice (some ⟨vb,vo,none⟩) m vc]).run Tryz.prog W=.ok (goInt (Nat.min m (n+m-i))) (withObj W w.heap.size (.cells (splice ROW (i) new) 251)):=fun W hW ty dc=>
  run_copy_obj W 170 170 ty 251 1 Tryz.underlying170 hs (by rw[hnl];simp only[Nat.min_def];split<;>omega)
   (fun j v hj=>by
     rw[Addr.add_lit]
     have:=hnew j v hj
     simp only[World.cell?]at this ⊢
     rw[hW,hother vb hvw]
     exact this) (by rw[hW];exact hc1) (by rw[hnl,hN];omega) (fun o _=>by simp) h1n
 have hdl:(old.drop (i)).length=(n-i):=by rw[List.length_drop,hol]
 have hcpB:∀(W:World),W.heap=(withObj W1 w.heap.size (.cells (splice ROW (i) new) 251)).heap->∀ty dc sc,(Builtin.copy_ #[170,170] ty #[.slice (some ⟨w.heap.size,(i+m),none⟩) (n+m-(i+m)) dc,.slice (some ⟨c,q+i,none⟩) (n-i) sc]).run Tryz.prog W=.ok (goInt (Nat.min (n-i) (n+m-(i+m)))) (withObj W w.heap.size (.cells (splice (splice ROW (i) new) ((i+m)) (old.drop (i))) 251)):=fun W hW ty dc sc=>
  have hlt1:w.heap.size<W1.heap.size:=(Array.getElem?_eq_some_iff.1 hc1).1
  run_copy_obj W 170 170 ty 251 1 Tryz.underlying170 hs (by rw[hdl];simp only[Nat.min_def];split<;>omega)
   (fun j v hj=>by
     rw[List.getElem?_drop]at hj
     rw[Addr.add_lit]
     refine hcell W c cells e fr ?_ _ _ (by rw[Nat.add_assoc];exact hold _ _ hj)
     rw[hW,withObj_heap _ _ _ _ hlt1,if_neg (by omega),hother c hlt];exact hc) (by rw[hW,withObj_heap _ _ _ _ hlt1,if_pos rfl]) (by rw[hdl,splice_size,hN];omega) (fun o _=>by simp) (fun v hv=>h1o v (List.mem_of_mem_drop hv))
 have hGi:¬(G=i):=by omega
 have hGim:¬(G=i+m):=by omega
 have hci:¬(cap=i):=by omega
 have hw1:IntKind.i64.wrap ((i:Int)+(m:Int))=(i:Int)+(m:Int):=by rw[IntKind.wrap_i64];omega
 have hb1:(0:Int)<=(i:Int)+(m:Int):=by omega
 have hin:i<=n:=by omega
 have htn:((i:Int)+(m:Int)).toNat=i+m:=by omega
 have hb3:(i:Int)<=(n:Int):=by omega
 have mixed:Tryz.prog.follows .mixedOrders=true:=by kernel_rfl
 have hROWold:∀j v,j<i->old[j]?=some v->ROW[j]?=some v:=fun j v hj hv=>by
  rw[hROW]
  have hl:(old.take (i)).length=i:=by rw[List.length_take,hol];omega
  rw[Array.getElem?_append_left (by simp[hol];omega),Array.getElem?_append_left (by simp[hol];omega)]
  simp[List.getElem?_take,hj,hv]
 clear hkk hik hROW hG
 go_enter Tryz.func199,Tryz.ntmps199
 go_wp2_with (first
  | (at_builtin;refine Lib.wpList_append_run _ rfl _ _ _ _ rfl _ _ rfl rfl _ _ (hrz _) ?_)
  | (at_builtin;refine wpList_copy_runI _ rfl _ _ 170 170 rfl _ _ rfl rfl (hcpA _ rfl _ _) ?_))
 go_region_law_o (refine step_copy_runI rfl _ _ 170 170 rfl (.slice (some ⟨w.heap.size,(i+m),none⟩) (n+m-(i+m)) (G-(i+m))) (.slice (some ⟨c,q+i,none⟩) (n-i) (cap-i)) (by simp[Act.eval,Act.put]) (by simp[Act.eval,Act.put]) (hcpB ((withObj (w.alloc (.cells ROW 251)).drew w.heap.size (.cells (splice ROW (i) new) 251)).drew) (by rw[hW1];rfl) 3 (G-(i+m)) (cap-i)) ?_)
 go_wp2
 go_ret
 refine⟨ROW,G,hG63,hGn,hRs,hROWold,rfl,?_,rfl,rfl,rfl⟩
 exact push_twice w.heap _ _ _
theorem ins199_end (w w1:World) {c q n cap vb vo m vc:Nat} {r:Value} (hm:0<m) (hnc:n<=cap)
 (hr:(Builtin.append_ #[170,170] 170 #[.slice (some ⟨c,q,none⟩) n cap,.slice (some ⟨vb,vo,none⟩) m vc]).run Tryz.prog w=.ok r w1):
 Calls Tryz.prog 199 #[.slice (some ⟨c,q,none⟩) n cap,.int .i64 n,.slice (some ⟨vb,vo,none⟩) m vc] w fun x w'=>x=.returned r/\w'=w1:=by
 have hz1:¬((m:Int)=0):=by omega
 go_enter Tryz.func199,Tryz.ntmps199
 go_wp2_with (at_builtin;refine Lib.wpList_append_run _ rfl _ _ _ _ rfl _ _ rfl rfl _ _ hr ?_)
 all_goals go_ret
 all_goals exact⟨rfl,rfl⟩
end Go.Proofs.YtbhnjkegkadodaaGreatDoor
namespace Ex
open Go
variable {E:Env} {ρ ρ':Rho} {H H':Heap} {w w':World}
theorem Ext.world {w1:World} (h:Ext ρ H w ρ' H' w1) (hw:w'.heap=w1.heap) (ht:w'.tape=w1.tape) (ho:w'.os=w1.os) (hu:w'.output=w1.output):Ext ρ H w ρ' H' w' where
 le:=h.le
 size:=by rw[hw];exact h.size
 keep c hc hn:=by rw[hw];exact h.keep c hc hn
 range:=h.range
 dom:=h.dom
 next:=h.next
 tape:=ht.trans h.tape
 os:=ho.trans h.os
 output:=hu.trans h.output
 same:=h.same.trans (Shape.of_heap hw)
theorem three_get {front new tail:List Value} {j:Nat}:(front ++ new ++ tail)[j]?=if j<front.length then front[j]? else if j<front.length+new.length then new[j-front.length]? else tail[j-(front.length+new.length)]?:=by
 by_cases h1:j<front.length
 · rw[if_pos h1,List.append_assoc,List.getElem?_append_left h1]
 · rw[if_neg h1]
   by_cases h2:j<front.length+new.length
   · rw[if_pos h2,List.getElem?_append_left (by simp;omega),List.getElem?_append_right (by omega)]
   · rw[if_neg h2,List.getElem?_append_right (by simp;omega),List.length_append]
theorem splice_front {X:Array Value} {q:Nat} {front new tail:List Value} (hX:∀j v,front[j]?=some v->X[q+j]?=some v) (hfit:q+front.length+new.length+tail.length<=X.size):
 ∀j v,(front ++ new ++ tail)[j]?=some v → (splice (splice X (q+front.length) new) (q+front.length+new.length) tail)[q+j]?=some v:=by
 intro j v hv
 have hl:=(List.getElem?_eq_some_iff.1 hv).1
 simp only[List.length_append]at hl
 rw[three_get]at hv
 rw[splice_get _ _ _ _ (by rw[splice_size];omega),splice_get _ _ _ _ (by omega)]
 split at hv
 · rw[if_neg (by omega),if_neg (by omega)];exact hX j v hv
 · split at hv
   · rw[if_neg (by omega),if_pos (by omega),show q+j-(q+front.length)=j-front.length by omega];exact hv
   · rw[if_pos (by omega),show q+j-(q+front.length+new.length)=j-(front.length+new.length) by omega];exact hv
theorem splice_back {X:Array Value} {q:Nat} {front new tail:List Value} (hX:∀j v,front[j]?=some v->X[q+j]?=some v) (hfit:q+front.length+new.length+tail.length<=X.size):
 ∀j v,(front ++ new ++ tail)[j]?=some v → (splice (splice X (q+front.length+new.length) tail) (q+front.length) new)[q+j]?=some v:=by
 intro j v hv
 have hl:=(List.getElem?_eq_some_iff.1 hv).1
 simp only[List.length_append]at hl
 rw[three_get]at hv
 rw[splice_get _ _ _ _ (by rw[splice_size];omega),splice_get _ _ _ _ (by omega)]
 split at hv
 · rw[if_neg (by omega),if_neg (by omega)];exact hX j v hv
 · split at hv
   · rw[if_pos (by omega),show q+j-(q+front.length)=j-front.length by omega];exact hv
   · rw[if_neg (by omega),if_pos (by omega),show q+j-(q+front.length+new.length)=j-(front.length+new.length) by omega];exact hv
theorem splice_all {X:Array Value} {q:Nat} {front new tail:List Value} (hX:∀j v,front[j]?=some v->X[q+j]?=some v) (hfit:q+front.length+new.length+tail.length<=X.size):
 splice (splice X (q+front.length+new.length) tail) (q+front.length) new=splice X q (front ++ new ++ tail):=by
 apply Array.ext'
 apply List.ext_getElem?
 intro j
 simp only[Array.getElem?_toList]
 rw[splice_get (front ++ new ++ tail) _ _ _ (by simp only[List.length_append];omega)]
 by_cases h:q<=j/\j<q+(front ++ new ++ tail).length
 · rw[if_pos h]
   obtain⟨v,hv⟩:∃v,(front ++ new ++ tail)[j-q]?=some v:=⟨_,List.getElem?_eq_getElem (by omega)⟩
   rw[hv]
   have:=splice_back hX hfit _ v hv
   rwa [show q+(j-q)=j by omega]at this
 · rw[if_neg h]
   simp only[List.length_append]at h
   rw[splice_get _ _ _ _ (by rw[splice_size];omega),splice_get _ _ _ _ (by omega),if_neg (by omega),if_neg (by omega)]
structure InsWalks (P:Program) (f:FuncId) (size:Nat) (t:TypeId):Prop where
 shift:∀(w:World) (c q n cap i vb vo m vc:Nat) (cells:Array Value) (e:TypeId) (fr:Nat × Nat) (old new:List Value),i<n → 0<m->n+m<=cap->n+m<=1048576->vb≠c ->
  w.heap[c]?=some (.cells cells e fr) → (∀o,o<cells.size->¬(fr.1<=o/\o<fr.2))->old.length=n*size->new.length=m*size → (∀j v,old[j]?=some v->cells[q+j]?=some v)->q+(n+m)*size<=cells.size ->
  (∀j v,new[j]?=some v->w.cell? ⟨vb,vo+j,none⟩=some v) → (∀v ∈ old,oneCell v=true) → (∀v ∈ new,oneCell v=true) ->
  ∀(tA tB:TypeId) (kA kB:Nat),w.shape? vb=some (tA,kA)->w.shape? c=some (tB,kB)->kB≠0->w.frozen? ⟨vb,vo,none⟩=false->w.frozen? ⟨vb,kA,none⟩=false ->
  Calls P f #[.slice (some ⟨c,q,none⟩) n cap,.int .i64 i,.slice (some ⟨vb,vo,none⟩) m vc] w fun x w'=>
   x=.returned (.slice (some ⟨c,q,none⟩) (n+m) cap)/\w'=withObj w.drew c (.cells (splice (splice cells (q+(i+m)*size) (old.drop (i*size))) (q+i*size) new) e fr)
 grow:∀(w:World) (c q n cap i vb vo m vc:Nat) (cells:Array Value) (e:TypeId) (fr:Nat × Nat) (old new:List Value),i<n → 0<m->n<=cap->cap<n+m->n+m<=1048576 ->
  w.heap[c]?=some (.cells cells e fr)->old.length=n*size->new.length=m*size → (∀j v,old[j]?=some v->cells[q+j]?=some v) ->
  (∀j v,new[j]?=some v->w.cell? ⟨vb,vo+j,none⟩=some v) → (∀v ∈ old,oneCell v=true) → (∀v ∈ new,oneCell v=true) ->
  Calls P f #[.slice (some ⟨c,q,none⟩) n cap,.int .i64 i,.slice (some ⟨vb,vo,none⟩) m vc] w fun x w'=>
   ∃(ROW:Array Value) (G:Nat) (e':TypeId),n+m<=G/\ROW.size=G*size/\(∀j v,j<i*size->old[j]?=some v->ROW[j]?=some v)/\x=.returned (.slice (some ⟨w.heap.size,0,none⟩) (n+m) G) /\
   w'.heap=w.heap.push (.cells (splice (splice ROW (i*size) new) ((i+m)*size) (old.drop (i*size))) e')/\w'.tape=w.tape/\w'.os=w.os/\w'.output=w.output
 atEnd:∀(w w1:World) (c q n cap vb vo m vc:Nat) (r:Value),0<m->n<=cap ->
  (Builtin.append_ #[t,t] t #[.slice (some ⟨c,q,none⟩) n cap,.slice (some ⟨vb,vo,none⟩) m vc]).run P w=.ok r w1 ->
  Calls P f #[.slice (some ⟨c,q,none⟩) n cap,.int .i64 n,.slice (some ⟨vb,vo,none⟩) m vc] w fun x w'=>x=.returned r/\w'=w1
theorem ble_false {a b:Nat} (h:Nat.ble a b=false):b<a:=by
 rcases Nat.lt_or_ge b a with h1|h1
 · exact h1
 · rw[Nat.ble_eq_true_of_le h1]at h;cases h
theorem insAt_end {size n m b o cap:Nat} {t:TypeId} {sp sp':Option Nat} {vb vo vc k:Nat} {new old cs:List Value} {v':Value} (hsz:appSize E.tt t=some size) (hob:H.get b=.cells cs k) (hold:takeL (n*size) (dropL o cs)=some old) (hnew:readCells H vb vo (m*size)=some new)
 (h1:allOne new=true) (hm:1<=m) (hpos:0<size) (hbig:Nat.ble (n+m) 1048576=true) (hi:insAt H b o n cap size n m new cs k old=.ok v' H'):
 appendA E.tt H t (.slice (some ⟨b,o,sp⟩) n cap) (.slice (some ⟨vb,vo,sp'⟩) m vc)=.ok v' H':=by
 have hnl:new.length=m*size:=by
  unfold readCells at hnew
  split at hnew
  · obtain⟨a,rfl⟩:=takeL_some hnew
    rw[List.length_take];omega
  · cases hnew
 obtain⟨hle,hoe⟩:=takeL_some hold
 rw[dropL_eq]at hle hoe
 have hol:old.length=n*size:=by rw[hoe,List.length_take];omega
 have e1:old.take (n*size)=old:=List.take_of_length_le (by omega)
 have e2:old.drop (n*size)=[]:=List.drop_eq_nil_of_le (by omega)
 unfold insAt at hi
 rw[e1,e2,List.append_nil]at hi
 unfold appendA
 rw[hsz]
 show appSrc H size m _ (readCells H vb vo (m*size))=_
 rw[hnew]
 simp only[appSrc,hnl,Nat.beq_refl,h1,Bool.and_self]
 show(match Nat.ble (n+m) 1048576 with|true=>appIn H b o n cap size m new (H.get b)|false=>.bad)=_
 rw[hbig,hob]
 simp only[appIn]
 cases hnear:Nat.ble (n+m) cap with
 | true=>
   rw[hnear]at hi
   simp only at hi ⊢
   have hw:writeCells H b (o+n*size) new=writeCells H b o (old ++ new):=by
    unfold writeCells
    rw[hob]
    simp only
    rw[putAt_eq,putAt_eq,List.length_append,hol]
    by_cases hf:o+n*size+new.length<=cs.length
    · rw[if_pos hf,if_pos (by omega)]
      congr 2
      rw[<-Nat.add_assoc,List.take_add,<-hoe];simp only[List.append_assoc]
    · rw[if_neg hf,if_neg (by omega)]
   have hne:new≠[]:=fun e=>by
    rw[e]at hnl
    have:0<m*size:=Nat.mul_pos hm hpos
    simp at hnl;omega
   cases new with
   | nil=>exact absurd rfl hne
   | cons y ys=>simp only;rw[hw];exact hi
 | false=>
   rw[hnear]at hi
   simp only at hi ⊢
   rw[hold]
   simp only[appFar]
   exact hi
theorem insert_sound (hE:EnvOk E) {f size:Nat} {t:TypeId} (W:InsWalks E.P f size t) (hsz:appSize E.tt t=some size) (hd:isInt (E.tt.und t)=some false) {args args':List Value} {v':Value} (h:HR E.ng ρ H w) (ha:LR ρ args args') (hc:insertA H size args'=.ok v' H'):
 Calls E.P f ⟨args⟩ w (fun x w'=>∃ρ' v,x=.returned v/\VR ρ' v v'/\HR E.ng ρ' H' w'/\Ext ρ H w ρ' H' w'):=by
 obtain⟨e0,i0,z0,y1,y2,y3,y4,y5,y6,y7,hpos⟩:=appSize_inv hE hsz
 clear y1 y2 y3 y4 y5 y6 y7
 unfold insertA at hc
 split at hc
 case h_2=>cases hc
 rename_i b o sp n cap i vb vo sp' m vc
 obtain⟨s,_,rfl,hs,ha⟩:=ha.cons_inv
 obtain⟨x,_,rfl,hx,ha⟩:=ha.cons_inv
 obtain⟨v,_,rfl,hv,ha⟩:=ha.cons_inv
 cases ha.nil_inv
 rw[hx.int_inv]
 cases hq:(Nat.ble i n && Nat.ble n cap && Nat.ble 1 m && Nat.ble (n+m) 1048576 && (Nat.beq b vb).not) with
 | false=>rw[hq]at hc;cases hc
 | true=>
   rw[hq]at hc
   simp only[Bool.and_eq_true]at hq
   obtain⟨⟨⟨⟨q1,q5⟩,q2⟩,q3⟩,q4⟩:=hq
   have i5:=Nat.le_of_ble_eq_true q5
   have i1:=Nat.le_of_ble_eq_true q1
   have i2:=Nat.le_of_ble_eq_true q2
   have i3:=Nat.le_of_ble_eq_true q3
   have i4:b≠vb:=fun e=>by subst e;rw[Nat.beq_refl]at q4;cases q4
   simp only at hc
   cases hob:H.get b<;>rw[hob]at hc<;>simp only at hc<;>try (cases hc;done)
   rename_i cs k
   cases hold:takeL (n*size) (dropL o cs) with
   | none=>rw[hold]at hc;cases hc
   | some old'=>
     rw[hold]at hc
     simp only at hc
     cases hvb:H.get vb<;>rw[hvb]at hc<;>(try simp only at hc)<;>try (cases hc;done)
     rename_i cv kv
     cases kv with
     | succ kv=>cases hc
     | zero=>
       simp only at hc
       cases hnew:readCells H vb vo (m*size) with
       | none=>rw[hnew]at hc;cases hc
       | some new'=>
         rw[hnew]at hc
         simp only at hc
         cases hone:(allOne old' && allOne new') with
         | false=>rw[hone]at hc;cases hc
         | true=>
           rw[hone]at hc
           simp only[Bool.and_eq_true]at hone
           simp only at hc
           obtain⟨p,hp,hcase⟩:=slice_inv hs
           obtain⟨pv,hpv,hcasev⟩:=slice_inv hv
           obtain⟨hpk,hcells⟩:=h.cells hp hob
           obtain⟨hpvk,hcellsv⟩:=h.cells hpv hvb
           obtain⟨vc2,rfl⟩:∃vc2,v=.slice (some ⟨pv.c,pv.s+vo,none⟩) m vc2:=by
            rcases hcasev with⟨vc2,e,-,-,-⟩|⟨_,_,_,_,_,hk⟩
            · exact⟨vc2,e⟩
            · exact absurd hpvk hk
           have hread:readCells H b o (n*size)=some old':=by simp only[readCells,hob];exact hold
           obtain⟨old,ho1,ho2,ho3⟩:=read_cells h hp hread
           obtain⟨new,hn1,hn2,hn3⟩:=read_cells h hpv hnew
           have h1o:=allOne_rel ho1 hone.1
           have h1n:=allOne_rel hn1 hone.2
           have halive:H.get b≠.none:=by rw[hob];simp
           have halivev:H.get vb≠.none:=by rw[hvb];simp
           by_cases hin:i=n
           · subst hin
             have hap:=insAt_end (E:=E) (sp:=sp) (sp':=sp') (vc:=vc) hsz hob hold hnew hone.2 i2 hpos q3 hc
             obtain⟨ρ',v,w',r1,r2,r3,r4⟩:=append_sound hE h (ty:=t) hd hs hv hap
             rcases hcase with⟨c,rfl,hcc,-,-⟩|⟨a,c,-,h0,h00,hk⟩
             · exact(W.atEnd w w' p.c (p.s+o) i c pv.c (pv.s+vo) m vc2 v i2 (Nat.le_trans i5 hcc) r1).mono fun x w1 hx=>⟨ρ',v,hx.1,r2,hx.2▸r3,hx.2▸r4⟩
             · exfalso
               subst h0;subst h00
               rw[hpk]at hk
               unfold insAt at hc
               rw[show Nat.ble (0+m) 0=false from by cases hz:Nat.ble (0+m) 0 with|false=>rfl|true=>have:=Nat.le_of_ble_eq_true hz;omega]at hc
               cases k with
               | zero=>exact hk rfl
               | succ k=>
                 simp only at hc
                 rw[show Nat.blt 0 0=false from rfl,Bool.and_false]at hc
                 cases hc
           · have hlt:i<n:=by omega
             obtain⟨c,rfl,hcc,hc0,hck⟩:∃c,s=Value.slice (some { block:=p.c,off:=p.s+o }) n c/\cap<=c/\(p.k=0->c=cap)/\(p.k≠0->o+p.k*c<=p.z):=by
              rcases hcase with⟨c,e⟩|⟨a,c,-,h0,h00,hk⟩
              · exact⟨c,e⟩
              · omega
             clear hs hv hx
             obtain⟨cells,e,fr,c1,c2,c3,c4,c5,c6⟩:=hcells
             obtain⟨cellsv,ev,frv,d1,d2,d3,d4,d5,d6⟩:=hcellsv
             have hne:pv.c≠p.c:=fun e=>i4 (h.inj vb b pv p halivev halive hpv hp e).symm
             have hols:old'.length=n*size:=by rw[<-ho1.1,ho2]
             have hnls:new'.length=m*size:=by rw[<-hn1.1,hn2]
             have his:i*size<=n*size:=Nat.mul_le_mul_right _ i1
             have hnm:(n+m)*size=n*size+m*size:=Nat.add_mul _ _ _
             have him:(i+m)*size=i*size+m*size:=Nat.add_mul _ _ _
             have hcs:o+n*size<=cs.length:=by
              rw[dropL_eq]at hold
              have:=(takeL_some hold).1
              rw[List.length_drop]at this
              have hnp:0<n*size:=Nat.mul_pos (by omega) hpos
              omega
             have hcl:∀j v,old[j]?=some v->cells[p.s+o+j]?=some v:=fun j v hj=>by
              have:=ho3 j v hj
              simpa[World.cell?,c1] using this
             have hR:LR ρ (old.take (i*size) ++ new ++ old.drop (i*size)) (old'.take (i*size) ++ new' ++ old'.drop (i*size)):=((ho1.take _).append hn1).append (ho1.drop _)
             have hRl:(old.take (i*size) ++ new ++ old.drop (i*size)).length=(n+m)*size:=by
              simp only[List.length_append,List.length_take,List.length_drop,ho2,hn2];omega
             have hR1:∀v ∈ old.take (i*size) ++ new ++ old.drop (i*size),oneCell v=true:=fun v hv=>by
              simp only[List.mem_append]at hv
              rcases hv with(hv|hv)|hv
              · exact h1o v (List.mem_of_mem_take hv)
              · exact h1n v hv
              · exact h1o v (List.mem_of_mem_drop hv)
             have hfl:(old.take (i*size)).length=i*size:=by rw[List.length_take,ho2];omega
             have hdl:(old.drop (i*size)).length=n*size-i*size:=by rw[List.length_drop,ho2]
             have hRl':(old'.take (i*size) ++ new' ++ old'.drop (i*size)).length=(n+m)*size:=by rw[<-hR.1,hRl]
             have hfz:∀o,w.frozen? ⟨pv.c,o,none⟩=false:=fun o=>by
              simp only[World.frozen?,d1]
              have:=d5 o (.inr hpvk)
              simpa using this
             have hshift:∀(hroom:n+m<=c) (hfit:p.s+o+(n+m)*size<=cells.size) {R:Ending->World->Prop},R (.returned (.slice (some ⟨p.c,p.s+o,none⟩) (n+m) c)) (withObj w.drew p.c (.cells (splice cells (p.s+o) (old.take (i*size) ++ new ++ old.drop (i*size))) e fr)) ->
                Calls E.P f #[.slice (some ⟨p.c,p.s+o,none⟩) n c,.int .i64 i,.slice (some ⟨pv.c,pv.s+vo,none⟩) m vc2] w R:=fun hroom hfit R hR=>by
              have hkB:cells.size≠0:=by
               have:0<(n+m)*size:=Nat.mul_pos (by omega) hpos
               omega
              have hsp:=splice_all (X:=cells) (q:=p.s+o) (front:=old.take (i*size)) (new:=new) (tail:=old.drop (i*size)) (fun j v hj=>by
               rw[List.getElem?_take]at hj
               split at hj
               · exact hcl j v hj
               · cases hj) (by rw[hfl,hdl,hn2];omega)
              rw[hfl,hn2,Nat.add_assoc,<-him]at hsp
              refine(W.shift w p.c (p.s+o) n c i pv.c (pv.s+vo) m vc2 cells e fr old new hlt i2 hroom i3 hne c1 (fun o ho=>c5 o (.inl ho)) ho2 hn2 hcl hfit hn3 h1o h1n ev e cellsv.size cells.size (by simp[World.shape?,d1]) (by simp[World.shape?,c1]) hkB (hfz _) (hfz _)).mono fun x w1 ⟨hx,hw1⟩=>?_
              subst hx;subst hw1
              rw[hsp]
              exact hR
             have hgrow:∀(hroom:c<n+m) (H0:Heap),HR E.ng ρ H0 w->Calls E.P f #[.slice (some ⟨p.c,p.s+o,none⟩) n c,.int .i64 i,.slice (some ⟨pv.c,pv.s+vo,none⟩) m vc2] w fun x w'=>∃ρ' v,x=.returned v/\VR ρ' v (.slice (some ⟨H0.next,0,none⟩) (n+m) (n+m))/\HR E.ng ρ' (newRowA H0 (old'.take (i*size) ++ new' ++ old'.drop (i*size)) size) w'/\Ext ρ H0 w ρ' (newRowA H0 (old'.take (i*size) ++ new' ++ old'.drop (i*size)) size) w':=fun hroom H0 hH0=>by
              refine(W.grow w p.c (p.s+o) n c i pv.c (pv.s+vo) m vc2 cells e fr old new hlt i2 (Nat.le_trans i5 hcc) (by omega) i3 c1 ho2 hn2 hcl hn3 h1o h1n).mono fun x w1 ⟨ROW,G,e',g1,g2,g3,hx,g4,g5,g6,g7⟩=>?_
              subst hx
              have hGs:(n+m)*size<=G*size:=Nat.mul_le_mul_right _ g1
              have hat:=splice_front (X:=ROW) (q:=0) (front:=old.take (i*size)) (new:=new) (tail:=old.drop (i*size)) (fun j v hj=>by
               rw[List.getElem?_take]at hj
               split at hj
               · rw[Nat.zero_add];exact g3 j v (by assumption) hj
               · cases hj) (by rw[hfl,hdl,hn2,g2];omega)
              rw[hfl,hn2,Nat.zero_add,<-him]at hat
              have hobj:ObjAt (ρ.put H0.next ⟨w.heap.size,0,G*size,size⟩) w1 H0.next (.cells (old'.take (i*size) ++ new' ++ old'.drop (i*size)) size):=by
               refine⟨_,Rho.put_same _ _ _,rfl,splice (splice ROW (i*size) new) ((i+m)*size) (old.drop (i*size)),e',(0,0),by rw[g4];simp,by simp only[splice_size,g2,Nat.zero_add],by rw[hRl'];exact hGs,fun h0=>absurd h0 (Nat.pos_iff_ne_zero.1 hpos),fun o _=>by simp,fun j v' hv=>?_⟩
               obtain⟨v,a,b'⟩:=(hR.mono (Rho.le_put (hH0.fresh _ (Nat.le_refl _)))).get hv
               exact⟨v,hat j v a,b'⟩
              obtain⟨k1,k2⟩:=ext_alloc hH0 _ _ _ rfl g4 g5 g6 g7 hobj
              refine⟨_,_,rfl,?_,k1,k2⟩
              exact VR.slice (o:=0) (p:=⟨w.heap.size,0,G*size,size⟩) (Rho.put_same _ _ _) g1 (fun h0=>absurd h0 (Nat.pos_iff_ne_zero.1 hpos)) (fun _=>by simp only;rw[Nat.zero_add,Nat.mul_comm];exact Nat.le_refl _)
             unfold insAt at hc
             cases hnear:Nat.ble (n+m) cap with
             | true=>
               rw[hnear]at hc
               have hroom:=Nat.le_of_ble_eq_true hnear
               simp only at hc
               cases hw:writeCells H b o (old'.take (i*size) ++ new' ++ old'.drop (i*size)) with
               | none=>rw[hw]at hc;cases hc
               | some H1=>
                 rw[hw]at hc
                 cases hc
                 have hfit:p.s+o+(n+m)*size<=cells.size:=by
                  have hw2:=hw
                  unfold writeCells at hw2
                  rw[hob]at hw2
                  simp only at hw2
                  rw[putAt_eq]at hw2
                  split at hw2
                  · omega
                  · cases hw2
                 obtain⟨r1,r2⟩:=rewrite_near h hp hw hR hR1 c1 (fun o ho=>c5 o (.inl ho)) (by rw[hRl];exact hfit)
                 refine hshift (Nat.le_trans hroom hcc) hfit ⟨ρ,_,rfl,.slice hp hcc hc0 hck,r1.world rfl,r2.world rfl rfl rfl rfl⟩
             | false=>
               rw[hnear]at hc
               have hfar:=ble_false hnear
               simp only at hc
               cases k with
               | zero=>
                 simp only[fresh]at hc
                 cases hc
                 exact hgrow (by rw[hc0 hpk];exact hfar) H h
               | succ k=>
                 simp only at hc
                 cases hq2:(Nat.beq (k+1) size && Nat.beq (o+n*size) cs.length && Nat.blt 0 cap) with
                 | false=>rw[hq2]at hc;cases hc
                 | true=>
                   rw[hq2]at hc
                   simp only[Bool.and_eq_true,Nat.blt_eq]at hq2
                   obtain⟨⟨q1,q2⟩,q3⟩:=hq2
                   have q1:=Nat.eq_of_beq_eq_true q1
                   simp only[fresh]at hc
                   cases hc
                   by_cases hroom:n+m<=c
                   · have hkk:p.k≠0:=by rw[hpk];omega
                     have hck:=hck hkk
                     rw[hpk,q1]at hck
                     have e2:size*(n+m)<=size*c:=Nat.mul_le_mul_left _ hroom
                     have e3:size*(n+m)=(n+m)*size:=Nat.mul_comm _ _
                     have hfit:p.s+o+(n+m)*size<=cells.size:=by omega
                     obtain⟨r1,r2⟩:=rehold (o:=o) (k:=k+1) (cells':=splice cells (p.s+o) (old.take (i*size) ++ new ++ old.drop (i*size))) h hp hob (by omega) c1 (splice_size _ _ _) (fun o ho=>c5 o (.inl ho)) c2 hR (by rw[hRl];omega) (fun j v hv=>by
                      have hj:=(List.getElem?_eq_some_iff.1 hv).1
                      rw[splice_get _ _ _ _ (by rw[hRl];exact hfit),if_pos (by omega),show p.s+o+j-(p.s+o)=j by omega]
                      exact hv)
                     rw[q1]at r1 r2
                     refine hshift hroom hfit ⟨_,_,rfl,?_,r1.world rfl,r2.world rfl rfl rfl rfl⟩
                     have hn2:(H.set b .none).next=H.next:=Heap.next_set _ _ _
                     rw[hn2]
                     exact VR.slice (o:=0) (p:=⟨p.c,p.s+o,p.z-o,size⟩) (Rho.put_same _ _ _) hroom (fun h0=>absurd h0 (by simp only;omega)) (fun _=>by simp only;omega)
                   · refine(hgrow (by omega) _ (h.kill halive)).mono fun x w1 ⟨ρ',v,a1,a2,a3,a4⟩=>⟨ρ',v,a1,a2,a3,a4.of_kill halive⟩
end Ex
