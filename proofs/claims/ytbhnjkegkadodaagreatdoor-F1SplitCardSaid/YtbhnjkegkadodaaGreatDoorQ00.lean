/- A part of the proof of the statement of this seat: no condition. -/
import Derived.Test.YtbhnjkegkadodaaGreatDoorXG07
import Derived.ProofKit
import Derived.ReadAgain
import Derived.Lib.SmallJoins
import Derived.Test.YtbhnjkegkadodaaGreatDoorKP01
import Derived.OpenShut
import Derived.Test.YtbhnjkegkadodaaGreatDoorFr
import Derived.Test.YtbhnjkegkadodaaGreatDoorKMrun
import Derived.Test.YtbhnjkegkadodaaGreatDoorRows
import Derived.Lib.LaidTab
import Derived.Test.YtbhnjkegkadodaaGreatDoorChecked
import Derived.Deep.DeepHandedRow
import Derived.LaidLaws
set_option linter.unusedVariables false
set_option linter.unusedSimpArgs false
set_option maxRecDepth 100000
set_option maxHeartbeats 8000000
namespace Gl
open Go Go.Proofs Go.ChangeShapes Go.WideShapes Go.ChangeAt Go.RowKit Go.Joins
section
variable {H:Type} {enc:TypeId × Value->H} {P:Program}
theorem trodAll_carry {w w':World} {base:Nat} {spare:Nat->Bool} {held:Bool}:∀ {ts:List TypeId} {vs:List Value} {ds:List (DataW H)} {ps:List MemPlace},DataW.TrodAll enc P w base spare held ts vs ds ps → (∀p ∈ ps,w.sameAt w' p)->DataW.TrodAll enc P w' base spare held ts vs ds ps
 | [],[],[],_,h,_=>h
 | _ :: _,_ :: _,_ :: _,_,⟨p,q,⟨n,h1⟩,h2,e⟩,hs=>⟨p,q,⟨n,DataW.trod_carry n _ _ _ h1 (fun x hx=>hs x (by rw[e];exact List.mem_append_left _ hx))⟩,trodAll_carry h2 (fun x hx=>hs x (by rw[e];exact List.mem_append_right _ hx)),e⟩
theorem same_of_fresh {W W':World} (hF:Ex.Fresh W W') {p:MemPlace} (hp:p.block<W.heap.size):W.sameAt W' p:=by
 have h:=hF.2.2.2.2 p.block hp
 cases p with
 | cell b off=>unfold World.sameAt;simp only[World.cell?,MemPlace.block]at h ⊢;rw[h]
 | map b=>exact h
theorem post_fresh {f:Func} {s:ChangeSpec} {apart fresh handsOn again:Bool} {W W':World} {args:Array Value} {v:Value} {ds:List (DataW H)} {before:List MemPlace} {T:TypeId->Prop}
 (hW:DataW.Whole enc P f.params.toList s.vars apart W args.toList ds [] before) (hv:s.vars=[])
 (K:Kids P T) (hz:∀t e,T t->P.underlying t=some (.slice e) → 0<P.cellsOf e) (hT:∀t ∈ f.params.toList,T t)
 (hfa:(s.fn H (ds ++ [])).args=ds) (hfv:(s.fn H (ds ++ [])).vars=[])
 (hres:∀(b:Nat) (sp:Nat->Bool) (hd:Bool),DataW.TrodAll enc P W' b sp hd f.resultTypes.toList (v.resultList f.resultTypes.size) (s.fn H (ds ++ [])).results [])
 (hF:Ex.Fresh W W')
 (hok:∀(j:Nat) (t:TypeId) (r:Value),f.resultTypes[j]?=some t → (v.resultList f.resultTypes.size)[j]?=some r->Value.okWide P W' .any 0 t r):
 s.post enc P f apart fresh handsOn again W args v W':=by
 have hold:∀p ∈ before,(fun b=>decide (b<W.heap.size)) p.block=true:=fun p hp=>by simpa using hW.lt p hp
 have hlt:=hW.lt
 obtain⟨pa,pv,hA,hV,hps,hz0,hn⟩:=id hW
 rw[hv]at hV
 have hpv:pv=[]:=by
  have hV':DataW.TrodVars enc P W (fun _=>true) [] [] pv:=hV
  exact hV'
 subst hpv
 rw[List.append_nil]at hps
 subst hps
 have hargs:∀sp:Nat->Bool,(∀p ∈ before,sp p.block=true)->DataW.TrodAll enc P W' 0 sp true f.params.toList args.toList (s.fn H (ds ++ [])).args before:=fun sp hsp=>by
  rw[hfa]
  exact trodAll_carry (hA.respare K hz hT hsp) (fun p hp=>same_of_fresh hF (hlt p hp))
 have hvars:∀sp:Nat->Bool,DataW.TrodVars enc P W' sp s.vars (s.fn H (ds ++ [])).vars []:=fun sp=>by
  rw[hv,hfv];rfl
 refine⟨ds,[],before,[],before,[],hW,hres _ _ _,hargs _ hold,hvars _,World.keptBut_mono (fun p hp=>⟨hp,Or.inr (Or.inl hp)⟩) (hF.kept (· ∈ before)),fun _=>?_⟩
 refine⟨hok,_,_,([] ++ before) ++ [],⟨[] ++ before,[],trodAll_append (hargs _ (fun _ _=>rfl)) (hres _ _ _),hvars _,rfl,?_,?_⟩,?_⟩
 · intro b off hp
   have hp':MemPlace.cell b off ∈ before:=by simpa using hp
   rw[hF.frozen _ (hlt _ hp')]
   exact hz0 b off (by simpa using hp')
 · intro ha
   have:=hn ha
   simpa using this
 · intro p hp _
   simpa using hp
end
end Gl
namespace Go.Proofs.YtbhnjkegkadodaaGreatDoor
open Go Go.Proofs Go.ChangeShapes Go.WideShapes Go.ChangeAt Go.RowKit Go.Joins Go.Deep Gl
def Giv (w:World) (Ag:Option Addr) (ng:Nat):Prop:=∀j,j<ng->∃b off A n c,Ag=some ⟨b,off,none⟩/\w.cell? ⟨b,off+j,none⟩=some (.slice A n c)/\(n<=4->∃g,LQ (fun x=>x<w.heap.size) w A n c g)
def Laid3 (w:World):Prop:=∃t,w.heap[3]?=some (.cells pow10s.toArray t (0,0))
theorem cells22:Tryz.prog.cellsOf 22=1:=by kernel_rfl
theorem cells24:Tryz.prog.cellsOf 24=1:=by kernel_rfl
theorem cells26:Tryz.prog.cellsOf 26=1:=by kernel_rfl
theorem cells359:Tryz.prog.cellsOf 359=20:=by kernel_rfl
theorem glob3:Tryz.prog.globalNamed "internal/strconv.uint64pow10" = some 3:=by kernel_rfl
theorem glob3t:(Tryz.prog.globals[3]?).map (·.type)=some 359:=by kernel_rfl
theorem cell_row {w:World} {b off:Nat} {v:Value} (h:w.cell? ⟨b,off,none⟩=some v):∃cs t f,w.heap[b]?=some (.cells cs t f)/\cs[off]?=some v:=by
 unfold World.cell? at h
 simp only at h
 split at h
 · rename_i c t f hh
   exact⟨c,t,f,hh,by simpa using h⟩
 · cases h
end Go.Proofs.YtbhnjkegkadodaaGreatDoor
namespace Go.Proofs.YtbhnjkegkadodaaGreatDoor
open Go Go.Proofs Go.ChangeShapes Go.WideShapes Go.ChangeAt Go.RowKit Go.Joins Go.Deep Gl
section
variable {H:Type} {enc:TypeId × Value->H} {w:World} {base:Nat} {held:Bool}
theorem open_limbs {fuel:Nat} {cs:List Value} {x:DataW H × List MemPlace} (h:DataW.trod enc Tryz.prog w base (fun _=>true) held fuel 24 cs=some x):
 ∃(A:Option Addr) (n c:Nat),cs=[.slice A n c]/\(n<=1000->∃g,LQ (fun x=>x<w.heap.size) w A n c g):=by
 rcases ChangeShapes.open_ints Tryz.underlying24 Tryz.underlying22 cells22 h with⟨rfl,_⟩|⟨a,len,cap,zs,rfl,_,hle,hmax,hlen,_,hcell,hw⟩
 · exact⟨none,0,0,rfl,fun _=>⟨0,(LN.nil _ _).lq⟩⟩
 · rw[if_pos rfl]at hlen
   refine⟨some a,len,cap,rfl,fun hn=>?_⟩
   have hb:∀z ∈ zs,0<=z/\z<18446744073709551616:=fun z hz=>(by have:=bounds_u64 (hw z hz);omega)
   have hnat:Gn.NatV 22 w (some a) len cap ((zs.take len).map Int.toNat):=by
    refine⟨by simp;omega,hle,hmax,fun x hx=>?_,fun h0=>?_⟩
    · obtain⟨z,hz,rfl⟩:=List.mem_map.1 hx
      have:=hb z (List.mem_of_mem_take hz)
      show z.toNat<18446744073709551616
      omega
    · obtain⟨b,off,rfl,hc'⟩:=ints_at hcell (by omega)
      obtain⟨cs,t,f,hh,_⟩:=cell_row (hc' 0 (by omega))
      refine⟨b,off,rfl,cs,f,t,hh,fun i v hv=>?_⟩
      have hi:i<len:=by
       have:=(List.getElem?_eq_some_iff.1 hv).1
       simp at this;omega
      have hz:i<zs.length:=by omega
      have hci:=hc' i hz
      have:cs[off+i]?=some (.int .u64 (zs.getD i 0)):=by
       simpa[World.cell?,hh] using hci
      rw[this,<-hv]
      have:=hb _ (List.getElem_mem hz)
      simp[List.getD,hi,hz,Gn.u64]
      omega
   exact⟨_,⟨⟨_,hnat,rfl⟩,hn,fun a e h0=>natv_lt hnat e h0⟩⟩
theorem open_num {fuel:Nat} {cs:List Value} {x:DataW H × List MemPlace} (h:DataW.trod enc Tryz.prog w base (fun _=>true) held fuel 26 cs=some x):
 ∃(A:Option Addr) (n c:Nat),cs=[.slice A n c]/\(n<=1000->∃g,LQ (fun x=>x<w.heap.size) w A n c g):=by
 obtain⟨y0,n,_,hl,h0⟩:=trod_struct1 Tryz.underlying26 h
 rw[cells26]at hl
 have e:(cs.drop 0).take (Tryz.prog.cellsOf 24)=cs:=by rw[cells24,List.drop_zero,List.take_of_length_le (by omega)]
 exact open_limbs (e▸h0)
theorem open_given {fuel:Nat} {cs:List Value} {x:DataW H × List MemPlace} (h:DataW.trod enc Tryz.prog w base (fun _=>true) held fuel 62 cs=some x):
 ∃(A:Option Addr) (n c:Nat),cs=[.slice A n c]/\Giv w A n:=by
 rcases DataW.trod_slice Tryz.underlying62 h with⟨rfl,_⟩|⟨a,len,cap,elems,rest,n,_,rfl,_,_,hle,hmax,hlen,hel,_,_⟩
 · exact⟨none,0,0,rfl,fun j hj=>absurd hj (by omega)⟩
 · have each:∀i,i<len->∃A n c,w.cell? (a.add i)=some (.slice A n c)/\(n<=1000->∃g,LQ (fun x=>x<w.heap.size) w A n c g):=fun i hi=>by
    have h1:=hel i hi
    rw[cells26,Nat.mul_one,List.getElem?_eq_getElem (by omega),Option.bind_eq_some_iff]at h1
    obtain⟨cs',h2,h3⟩:=h1
    obtain⟨A,n,c,rfl,h4⟩:=open_num h3
    refine⟨A,n,c,?_,h4⟩
    have h5:=(World.cells?_some h2).2.2 0 (by omega)
    simpa[Addr.add] using h5
   refine⟨some a,len,cap,rfl,fun j hj=>?_⟩
   obtain⟨b,off,spot⟩:=a
   obtain⟨_,_,_,h0,_⟩:=each 0 (by omega)
   have hspot:spot=none:=by simpa[Addr.add] using World.cell?_spot h0
   subst hspot
   obtain⟨A,n,c,h1,h2⟩:=each j hj
   exact⟨b,off,A,n,c,rfl,by rwa [add_plain]at h1,fun hn=>h2 (by omega)⟩
end
end Go.Proofs.YtbhnjkegkadodaaGreatDoor
namespace Go.Proofs.YtbhnjkegkadodaaGreatDoor
open Go Go.Proofs Go.ChangeShapes Go.WideShapes Go.ChangeAt Go.RowKit Go.Joins Go.Deep Gl
theorem laid3_of {W:World} {L:List (String × DataW Unit)} (h:laidMet Tryz.prog (("math/bits.deBruijn32tab",Rows.laid_math_bits_deBruijn32tab) :: ("math/bits.deBruijn64tab",Rows.laid_math_bits_deBruijn64tab) :: ("internal/strconv.uint64pow10",Rows.laid_internal_strconv_uint64pow10) :: L) W):Laid3 W:=by
 obtain⟨ps,⟨_,_,_,_,p1,q1,_,_,_,_,⟨_,_,_,_,p2,q2,_,_,_,_,⟨g,t,cs,fuel,p,q,hg,ht,hvar,hd,_,rfl⟩,rfl⟩,rfl⟩,_,hfz⟩:=h
 obtain rfl:=Option.some.inj (glob3.symm.trans hg)
 obtain rfl:=Option.some.inj (glob3t.symm.trans ht)
 have hcs:cs.toList=pow10s:=Lib.cells_of_tab (n:=20) (k:=.u64) (zs:=[1,10,100,1000,10000,100000,1000000,10000000,100000000,1000000000,10000000000,100000000000,1000000000000,10000000000000,100000000000000,1000000000000000,10000000000000000,100000000000000000,1000000000000000000,10000000000000000000]) Tryz.underlying359 Tryz.underlying22 cells22 cells359 hd
 have hcs':cs=pow10s.toArray:=by rw[<-hcs]
 have hsz:cs.size=20:=by rw[hcs'];rfl
 obtain⟨⟨c,t,hh⟩,_⟩:=hfz 3 0 (by
  rw[hsz]
  refine List.mem_append_right _ (List.mem_append_right _ ?_)
  refine List.mem_append_left _ (List.mem_append_left _ ?_)
  simp[MemPlace.row])
 refine⟨t,?_⟩
 unfold World.var? at hvar
 rw[glob3,Option.bind_some,hh]at hvar
 have hvar:c=cs:=by simpa using hvar
 rw[hh,hvar,hcs']
end Go.Proofs.YtbhnjkegkadodaaGreatDoor
section
open Go Go.Proofs
namespace Go.Proofs.YtbhnjkegkadodaaGreatDoor
open Go.ChangeShapes Go.WideShapes Go.ChangeAt Go.RowKit Go.Joins Go.Deep Gl
theorem own:ownKnob Tryz.prog.godebug=none:=by kernel_rfl
theorem kids:Kids Tryz.prog (· < Tryz.prog.types.size):=kids_rows (by kernel_rfl) (by kernel_rfl)
theorem full:∀t e,t<Tryz.prog.types.size->Tryz.prog.underlying t=some (.slice e) → 0<Tryz.prog.cellsOf e:=slices_full_of Tryz.prog (by kernel_rfl)
def flat1:DataW Unit->List Value
 | .lit (.int k z)=>[.int k z]
 | .agg ds=>ds.flatMap fun | .lit (.int k z)=>[.int k z]|_=>[]
 | _=>[]
def flat2:DataW Unit->List Value
 | .agg ds=>ds.flatMap flat1
 | _=>[]
def layIn (d:DataW Unit):Obj->Obj
 | .cells _ t f=>.cells (flat2 d).toArray t f
 | o=>o
noncomputable def laidWorld (args:Array Value) (os:Os):World:=
 { World.holding Tryz.prog os ⟨#[],args,[]⟩ with heap:=(((((World.holding Tryz.prog os ⟨#[],args,[]⟩).heap.modify 3 (layIn Rows.laid_internal_strconv_uint64pow10)).modify 4 (layIn Rows.laid_unicode_utf8_first)).modify 5 (layIn Rows.laid_unicode_utf8_acceptRanges)).modify 6 (layIn Rows.laid_math_bits_deBruijn32tab)).modify 7 (layIn Rows.laid_math_bits_deBruijn64tab) }
end Go.Proofs.YtbhnjkegkadodaaGreatDoor
end
