/- Part of the proof. -/
import Derived.Deep.WholeRow
import Derived.Deep.DeepCutAuto
import Derived.Test.YtbhnjkegkadodaaGreatDoorG10
import Derived.Lib.SliceRun
set_option linter.all false
set_option maxRecDepth 100000
set_option maxHeartbeats 8000000
namespace Gz
open Go Go.RowKit Go.Proofs Gl
theorem results_cell1 {P:Program} {fn:Func} {tmps:Array Value} {i ty:Nat} {a:Addr} {v:Value} {W:World} (hf:fn.results=#[.cell i ty]) (ht:tmps.getD i undef=.pointer (some a)) (hl:(loadVar ty a).run P W=.ok v W):(results fn tmps).run P W=.ok v W:=by
 unfold results;rw[hf];have a1:tmps[i]?.getD undef=.pointer (some a):=by simpa using ht
 simp[a1,hl,asAddr]
theorem put5 {W:World} {b:Nat} {t:TypeId} {u0 u1 u2 u3 u4:Value} (h:W.heap[b]?=some (.cells #[u0,u1,u2,u3,u4] t (0,0))) (v0 v1 v2 v3 v4:Value):
 W.cell? ⟨b,0,none⟩=some u0/\W.frozen? ⟨b,0,none⟩=false /\
 (W.setCell ⟨b,0,none⟩ v0).cell? ⟨b,1,none⟩=some u1/\(W.setCell ⟨b,0,none⟩ v0).frozen? ⟨b,1,none⟩=false /\
 ((W.setCell ⟨b,0,none⟩ v0).setCell ⟨b,1,none⟩ v1).cell? ⟨b,2,none⟩=some u2/\((W.setCell ⟨b,0,none⟩ v0).setCell ⟨b,1,none⟩ v1).frozen? ⟨b,2,none⟩=false /\
 (((W.setCell ⟨b,0,none⟩ v0).setCell ⟨b,1,none⟩ v1).setCell ⟨b,2,none⟩ v2).cell? ⟨b,3,none⟩=some u3/\(((W.setCell ⟨b,0,none⟩ v0).setCell ⟨b,1,none⟩ v1).setCell ⟨b,2,none⟩ v2).frozen? ⟨b,3,none⟩=false /\
 ((((W.setCell ⟨b,0,none⟩ v0).setCell ⟨b,1,none⟩ v1).setCell ⟨b,2,none⟩ v2).setCell ⟨b,3,none⟩ v3).cell? ⟨b,4,none⟩=some u4/\((((W.setCell ⟨b,0,none⟩ v0).setCell ⟨b,1,none⟩ v1).setCell ⟨b,2,none⟩ v2).setCell ⟨b,3,none⟩ v3).frozen? ⟨b,4,none⟩=false /\
 (((((W.setCell ⟨b,0,none⟩ v0).setCell ⟨b,1,none⟩ v1).setCell ⟨b,2,none⟩ v2).setCell ⟨b,3,none⟩ v3).setCell ⟨b,4,none⟩ v4).heap[b]?=some (.cells #[v0,v1,v2,v3,v4] t (0,0))/\Upd (fun c=>c=b) W (((((W.setCell ⟨b,0,none⟩ v0).setCell ⟨b,1,none⟩ v1).setCell ⟨b,2,none⟩ v2).setCell ⟨b,3,none⟩ v3).setCell ⟨b,4,none⟩ v4):=by
 have h1:(W.setCell ⟨b,0,none⟩ v0).heap[b]?=some (.cells #[v0,u1,u2,u3,u4] t (0,0)):=by rw[zac h];rfl
 have h2:((W.setCell ⟨b,0,none⟩ v0).setCell ⟨b,1,none⟩ v1).heap[b]?=some (.cells #[v0,v1,u2,u3,u4] t (0,0)):=by rw[zac h1];rfl
 have h3:(((W.setCell ⟨b,0,none⟩ v0).setCell ⟨b,1,none⟩ v1).setCell ⟨b,2,none⟩ v2).heap[b]?=some (.cells #[v0,v1,v2,u3,u4] t (0,0)):=by rw[zac h2];rfl
 have h4:((((W.setCell ⟨b,0,none⟩ v0).setCell ⟨b,1,none⟩ v1).setCell ⟨b,2,none⟩ v2).setCell ⟨b,3,none⟩ v3).heap[b]?=some (.cells #[v0,v1,v2,v3,u4] t (0,0)):=by rw[zac h3];rfl
 have h5:(((((W.setCell ⟨b,0,none⟩ v0).setCell ⟨b,1,none⟩ v1).setCell ⟨b,2,none⟩ v2).setCell ⟨b,3,none⟩ v3).setCell ⟨b,4,none⟩ v4).heap[b]?=some (.cells #[v0,v1,v2,v3,v4] t (0,0)):=by rw[zac h4];rfl
 exact⟨zaa h 0 _ rfl,zad h 0,zaa h1 1 _ rfl,zad h1 1,zaa h2 2 _ rfl,zad h2 2,zaa h3 3 _ rfl,zad h3 3,zaa h4 4 _ rfl,zad h4 4,h5,((((Upd.setCell (S:=fun c=>c=b) W _ rfl).trans (Upd.setCell _ _ rfl)).trans (Upd.setCell _ _ rfl)).trans (Upd.setCell _ _ rfl)).trans (Upd.setCell _ _ rfl)⟩
def frm (h m:Int) (a b t:Bool):List Value:=[.int .u8 h,.int .u8 m,.bool a,.bool b,.bool t]
def formL:List Value:=frm 112 0 false false false ++ frm 99 0 false false false ++ frm 109 0 false false false ++ frm 97 0 true false false ++ frm 118 48 true false false ++ frm 118 100 true true false ++ frm 118 104 true true false ++ frm 118 115 true true false ++ frm 116 0 true false false ++ frm 105 0 true true true ++ frm 98 0 true false false ++ frm 117 0 true false false ++ frm 114 0 true false false ++ frm 113 0 true true false ++ frm 101 0 true true false ++ frm 110 0 true true false ++ frm 107 0 true true false
theorem forms_c (w:World):Calls Tryz.prog 233 #[] w fun e w'=>e=.returned (.agg formL.toArray)/\New w w':=by
 have a2:=run_storeCells_new (P:=Tryz.prog) w 324 Tryz.zeroCells324 formL.toArray (by kernel_rfl) (by kernel_rfl) (by decide +kernel);have a3:=zqH a2;clear a2;go_enter Tryz.func233,Tryz.ntmps233;go_wp2;have key:∀(l:List Value),l=formL → (storeCells ⟨w.heap.size,0,none⟩ l 0).run Tryz.prog (w.alloc (.cells Tryz.zeroCells324 324))=.ok () (w.alloc (.cells formL.toArray 324)):=fun l h=>by rw[h];exact a3.out
 rw[key _ (by kernel_rfl)];clear key a3;obtain⟨FV,a1⟩:=zE formL.toArray;rw[<-a1];have a4:=zqH a1;clear a1;go_wp2;have a5:=run_loadVar_new (P:=Tryz.prog) w 324 FV 17 254 Tryz.underlying324 (by rw[a4.out];kernel_rfl);refine bodyPost_ret (results_cell1 Tryz.results233 rfl a5) rfl ?_
 exact⟨by rw[a4.out],zU _ _ _⟩
theorem form_c (w:World) (k h m:Int) (a b t:Bool) (h1:1<=k) (h2:k<=17) (hix:∀W,(Instr.index 324 (.agg formL.toArray) (.int .i64 (k-1))).run Tryz.prog W=.ok (.agg #[.int .u8 h,.int .u8 m,.bool a,.bool b,.bool t]) W):
 Calls Tryz.prog 173 #[.int .i64 k] w fun e w'=>e=.returned (.tuple #[.agg #[.int .u8 h,.int .u8 m,.bool a,.bool b,.bool t],.bool true])/\New w w':=by
 have hf:=fun W=>forms_c W;obtain⟨FV,a6⟩:=zE formL.toArray;rw[<-a6]at hix hf;have hw:wrap64 (k-1)=k-1:=by unfold wrap64;omega
 obtain⟨w0,a1⟩:=zE (w.alloc (.cells #[.int .u8 0,.int .u8 0,.bool false,.bool false,.bool false] 254));have a5:New w w0:=by rw[a1];exact zU _ _ _
 have k0:w0.heap[w.heap.size]?=some (.cells #[.int .u8 0,.int .u8 0,.bool false,.bool false,.bool false] 254 (0,0)):=by rw[a1];exact zX w _
 have HF:=zqH hf;have HN:=zqH a5;have HK:=zqH k0;clear hf a6 a5 k0;go_enter Tryz.func173,Tryz.ntmps173
 go_upto_region 3 with fail
 rw[<-a1];clear a1
 go_wp2_with (go_at_call 233
              refine(HF.out w0).mono ?_
              rintro e w1 ⟨rfl,a3⟩;have b0:=(a3.block w.heap.size (zqA.1 HK.out).1 id).trans HK.out;obtain⟨g0,y0,g1,y1,g2,y2,g3,y3,g4,y4,hh,a2⟩:=put5 b0 (.int .u8 h) (.int .u8 m) (.bool a) (.bool b) (.bool t);have q0:=zaa hh 0 _ rfl;have q1:=zaa hh 1 _ rfl;have q2:=zaa hh 2 _ rfl;have q3:=zaa hh 3 _ rfl;have q4:=zaa hh 4 _ rfl;have HH:=zqH (zN a3 a2);have QQ:=zqH (zN q0 (zN q1 (zN q2 (zN q3 q4))));clear a3 b0 hh a2 q0 q1 q2 q3 q4)
 obtain⟨q0,q1,q2,q3,q4⟩:=QQ.out;refine bodyPost_ret (by simp[results,Tryz.results173,go_sem,q0,q1,q2,q3,q4];try rfl) rfl ?_
 exact⟨rfl,(HN.out.trans HH.out.1).then HH.out.2 (fun x hx e=>by have e:x=w.heap.size:=e;omega)⟩
theorem zbc {w w':World} (h:New w w'):New w w':=h
theorem form7 (w:World):Calls Tryz.prog 173 #[.int .i64 7] w fun e w'=>e=.returned (.tuple #[.agg #[.int .u8 118,.int .u8 104,.bool true,.bool true,.bool false],.bool true])/\New w w':=form_c w 7 _ _ _ _ _ (by omega) (by omega) (fun W=>by kernel_rfl)
theorem form8 (w:World):Calls Tryz.prog 173 #[.int .i64 8] w fun e w'=>e=.returned (.tuple #[.agg #[.int .u8 118,.int .u8 115,.bool true,.bool true,.bool false],.bool true])/\New w w':=form_c w 8 _ _ _ _ _ (by omega) (by omega) (fun W=>by kernel_rfl)
end Gz
namespace Gl
open Go Go.RowKit
theorem zan:∀(vs:List Value) (o:Nat) {w:World} {g:Nat} {cur:Array Value} {e:TypeId} {fr:Nat × Nat},w.heap[g]?=some (.cells cur e fr)->w.setCells g o vs=Ex.withObj w g (.cells (Ex.splice cur o vs) e fr)
 | [],o,w,g,cur,e,fr,h=>(Ex.withObj_self h).symm
 | v :: vs,o,w,g,cur,e,fr,h=>by
   have hlt:=(zqA.1 h).1;have h2:(Ex.withObj w g (.cells (cur.setIfInBounds o v) e fr)).heap[g]?=some (.cells (cur.setIfInBounds o v) e fr):=by rw[Ex.withObj_heap _ _ _ _ hlt,if_pos rfl]
   show(w.setCell ⟨g,o,none⟩ v).setCells g (o+1) vs=_
   rw[Ex.setCell_withObj h v,zan vs (o+1) h2,Ex.withObj_twice];rfl
theorem Upd.setCells {S:Nat->Prop} {g:Nat} (hs:S g):∀(vs:List Value) (o:Nat) (w:World),Upd S w (w.setCells g o vs)
 | [],o,w=>Upd.refl _ _
 | v :: vs,o,w=>(Upd.setCell (a:=⟨g,o,none⟩) w v hs).trans (Upd.setCells hs vs (o+1) _)
theorem ownsRow_spliced {w w':World} {base:Nat} {e:TypeId} {size g n c m:Nat} {xs ys:List Value} {cur cur':Array Value} (hb:base<=g) (hh:w'.heap[g]?=some (.cells cur' e (0,0))) (hm:m<=c) (hc:c<=maxLen) (hs:cur'.size=c*size)
 (hl:ys.length=m*size) (hy:∀(j:Nat) (u:Value),ys[j]?=some u->cur'[j]?=some u):w'.ownsRow base e size (.slice (some ⟨g,0,none⟩) m c) m ys:=by
 refine⟨hl,.inr ⟨g,c,cur',rfl,hb,hh,hm,hc,hs,?_⟩⟩;have a2:m*size<=cur'.size:=by rw[hs];exact Nat.mul_le_mul_right _ hm
 apply List.ext_getElem?;intro j;rw[List.getElem?_take];by_cases hj:j<m*size
 · rw[if_pos hj];have a1:j<ys.length:=by omega
   have h1:=hy j ys[j] (zG a1);rw[Array.getElem?_toList,h1,zG a1]
 · rw[if_neg hj,List.getElem?_eq_none (by omega)]
theorem ownsRow_del {w:World} {base:Nat} {e:TypeId} {size g n c i:Nat} {xs zs:List Value} (h:w.ownsRow base e size (.slice (some ⟨g,0,none⟩) n c) n xs) (hi:i<n) (hz:zs.length=size):
 ((w.setCells g (i*size) (xs.drop ((i+1)*size))).setCells g ((n-1)*size) zs).ownsRow base e size (.slice (some ⟨g,0,none⟩) (n-1) c) (n-1) (xs.take (i*size) ++ xs.drop ((i+1)*size)):=by
 obtain⟨hl,⟨e1,_⟩|⟨g',c',cur,e1,hb,hh,b0,hm,hs,ht⟩⟩:=h
 · cases e1
 cases e1;have a4:=(zqA.1 hh).1;have a5:n=(n-1)+1:=by omega
 have b7:n*size=(n-1)*size+size:=by rw[a5,Nat.add_mul,Nat.one_mul];simp
 have b8:(i+1)*size=i*size+size:=by rw[Nat.add_mul,Nat.one_mul]
 have b9:(i+1)*size<=n*size:=Nat.mul_le_mul_right _ (by omega);have c5:n*size<=cur.size:=by rw[hs];exact Nat.mul_le_mul_right _ b0
 have a1:(xs.drop ((i+1)*size)).length=n*size-(i+1)*size:=by rw[List.length_drop,hl]
 have a2:(w.setCells g (i*size) (xs.drop ((i+1)*size))).heap[g]?=some (.cells (Ex.splice cur (i*size) (xs.drop ((i+1)*size))) e (0,0)):=by
   rw[zan _ _ hh,Ex.withObj_heap _ _ _ _ a4,if_pos rfl]
 have a3:=(zqA.1 a2).1;have a6:((w.setCells g (i*size) (xs.drop ((i+1)*size))).setCells g ((n-1)*size) zs).heap[g]?=some (.cells (Ex.splice (Ex.splice cur (i*size) (xs.drop ((i+1)*size))) ((n-1)*size) zs) e (0,0)):=by
   rw[zan _ _ a2,Ex.withObj_heap _ _ _ _ a3,if_pos rfl]
 refine ownsRow_spliced (w:=w) (n:=n) (xs:=xs) (cur:=cur) hb a6 (by omega) hm (by rw[Ex.splice_size,Ex.splice_size,hs]) ?_ ?_
 · rw[List.length_append,a1,List.length_take,hl];omega
 · intro j u hj;have c6:j<(n-1)*size:=by
    have:=(List.getElem?_eq_some_iff.1 hj).1;rw[List.length_append,a1,List.length_take,hl]at this;omega
   rw[Ex.splice_get _ _ _ _ (by rw[Ex.splice_size];omega),if_neg (by omega),Ex.splice_get _ _ _ _ (by rw[a1];omega)];have a7:∀q,q<n*size->cur[q]?=xs[q]?:=fun q hq=>by
    rw[<-ht,List.getElem?_take,if_pos hq,Array.getElem?_toList]
   by_cases hji:j<i*size
   · rw[if_neg (by omega),a7 j (by omega)];rw[List.getElem?_append_left (by rw[List.length_take];omega),List.getElem?_take,if_pos hji]at hj;exact hj
   · rw[if_pos (by rw[a1];omega)];rw[List.getElem?_append_right (by rw[List.length_take];omega),List.length_take,Nat.min_eq_left (by omega)]at hj;exact hj
theorem run_clear_one {P:Program} (w:World) (t e ty:TypeId) (z:Value) (zs:List Value) (ht:P.underlying t=some (.slice e)) (hv:∀w,(zeroValue e).run P w=.ok z w) (hz:(Builtin.zeroCells z.cells 1).toList=zs) (h1:∀u ∈ zs,u.oneCell'=true) (b o c:Nat)
 (hc:∀j,j<zs.length → (w.cell? ⟨b,o+j,none⟩).isSome=true) (hf:∀j,j<zs.length->w.frozen? ⟨b,o+j,none⟩=false):
 (Builtin.clear_ #[t] ty #[.slice (some ⟨b,o,none⟩) 1 c]).run P w=.ok (.tuple #[]) (w.setCells b o zs):=by
 have a1:=run_storeCells_cells (P:=P) b o zs 0 w (by simpa using hc) (by simpa using hf) h1;simp only[Nat.add_zero]at a1;simp[Builtin.clear_,run_underlying ht,hv,hz,a1]
end Gl
namespace Gl
open Go Go.RowKit
section
variable {tE tP base bm n c N:Nat} {w w':World} {D F T:Nat->Prop} {A:Option Addr} {vs:List Value} {ps:List (List Ent)}
theorem get_del {α:Type} {L:List α} {i j:Nat} {y:α} (h:(L.take i ++ L.drop (i+1))[j]?=some y):(j<i/\L[j]?=some y)\/(i<=j/\L[j+1]?=some y):=by
 by_cases hj:j<(L.take i).length
 · rw[List.getElem?_append_left hj,List.getElem?_take]at h;have:j<i:=by rw[List.length_take]at hj;omega
   rw[if_pos this]at h;exact .inl ⟨this,h⟩
 · rw[List.getElem?_append_right (by omega),List.getElem?_drop]at h;rw[List.length_take]at hj h;by_cases hi:i<=L.length
   · rw[Nat.min_eq_left hi]at hj h;exact .inr ⟨by omega,by rw[<-h];congr 1;omega⟩
   · rw[List.getElem?_eq_none (by omega)]at h;cases h
theorem MapRaw.page_del (h:MapRaw tE tP base w bm D A n c N vs ps) {i N':Nat} (hi:i<ps.length) (hu:Upd (fun b=>b=bm\/(Value.slice A n c).ownBlock=some b) w w')
 (hblk:∃t,w'.heap[bm]?=some (.cells #[.slice A (n-1) c,.int .i64 (N':Int)] t (0,0))) (hrow:w'.ownsRow base tP 1 (.slice A (n-1) c) (n-1) (vs.take i ++ vs.drop (i+1))):
 MapRaw tE tP base w' bm D A (n-1) c N' (vs.take i ++ vs.drop (i+1)) (ps.take i ++ ps.drop (i+1)):=by
 have a1:(Value.slice A (n-1) c).ownBlock=(Value.slice A n c).ownBlock:=by cases A<;>rfl
 have a2:∀b,D b->¬(b=bm\/(Value.slice A n c).ownBlock=some b):=fun b hb=>by
  rintro(e2|e2)
  · exact h.dm (e2▸hb)
  · exact h.dA b e2 hb
 have key:∀(q:Nat) (v:Value) (l:List Ent),vs[q]?=some v->ps[q]?=some l->PageAt tE base D w' v l:=fun q v l hv hl=>(h.page q v l hv hl).upd hu a2 (fun b e=>by
  rintro(e2|e2)
  · exact(h.away q v b hv e).1 e2
  · exact(h.away q v b hv e).2.1 e2)
 exact {
  blk:=hblk
  row:=hrow
  len:=by simp[h.len]
  page:=fun j v l hv hl=>by
   rcases get_del hv with⟨e1,hv⟩|⟨e1,hv⟩<;>rcases get_del hl with⟨e2,hl⟩|⟨e2,hl⟩<;>first|exact key _ v l hv hl|(exfalso;omega)
  inj:=fun j k v u hv hu2 hjk e=>by
   rcases get_del hv with⟨e1,hv⟩|⟨e1,hv⟩<;>rcases get_del hu2 with⟨e2,hu2⟩|⟨e2,hu2⟩<;>exact h.inj _ _ _ _ hv hu2 (by omega) e
  away:=fun j v b hv e=>by
   rw[a1];rcases get_del hv with⟨e1,hv⟩|⟨e1,hv⟩<;>exact h.away _ v b hv e
  bmA:=by rw[a1];exact h.bmA
  dm:=h.dm
  dA:=fun b e=>h.dA b (by rw[<-a1];exact e)
  hb:=h.hb
  lim:=fun b hb=>zqL (h.lim b hb) hu.size }
end
end Gl
