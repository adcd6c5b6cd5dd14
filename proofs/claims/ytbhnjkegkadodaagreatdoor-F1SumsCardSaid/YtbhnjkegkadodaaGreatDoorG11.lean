/- Part of the proof. -/
import Derived.Test.YtbhnjkegkadodaaGreatDoorG09
import Derived.Test.YtbhnjkegkadodaaGreatDoorG10
import Derived.Test.YtbhnjkegkadodaaGreatDoorRows
import Derived.Deep.DeepHandedRow
set_option linter.all false
set_option maxRecDepth 100000
set_option maxHeartbeats 8000000
namespace Go.Proofs.YtbhnjkegkadodaaGreatDoor
open Gz
open Go Go.Proofs Go.ChangeShapes Go.WideShapes Go.ChangeAt Go.RowKit Go.Joins Go.Deep Gl
def Giv (w:World) (Ag:Option Addr) (ng:Nat):Prop:=∀j,j<ng->∃b off A n c,Ag=some ⟨b,off,none⟩/\w.cell? ⟨b,off+j,none⟩=some (.slice A n c)/\(n<=4->∃g,LQ (fun x=>x<w.heap.size) w A n c g)
theorem cells22:Tryz.prog.cellsOf 22=1:=by kernel_rfl
theorem cells24:Tryz.prog.cellsOf 24=1:=by kernel_rfl
theorem cells26:Tryz.prog.cellsOf 26=1:=by kernel_rfl
theorem cells359:Tryz.prog.cellsOf 359=20:=by kernel_rfl
theorem glob3t:(Tryz.prog.globals[3]?).map (·.type)=some 359:=by kernel_rfl
theorem cell_row {w:World} {b off:Nat} {v:Value} (h:w.cell? ⟨b,off,none⟩=some v):∃cs t f,w.heap[b]?=some (.cells cs t f)/\cs[off]?=some v:=by
 unfold World.cell? at h;simp only at h
 split at h
 · rename_i c t f hh
   exact⟨c,t,f,hh,by simpa using h⟩
 · cases h
end Go.Proofs.YtbhnjkegkadodaaGreatDoor
namespace Go.Proofs.YtbhnjkegkadodaaGreatDoor
open Gz
open Go Go.Proofs Go.ChangeShapes Go.WideShapes Go.ChangeAt Go.RowKit Go.Joins Go.Deep Gl
section
variable {H:Type} {enc:TypeId × Value->H} {w:World} {base:Nat} {held:Bool}
theorem open_limbs {fuel:Nat} {cs:List Value} {x:DataW H × List MemPlace} (h:DataW.trod enc Tryz.prog w base (fun _=>true) held fuel 24 cs=some x):
 ∃(A:Option Addr) (n c:Nat),cs=[.slice A n c]/\(n<=1000->∃g,LQ (fun x=>x<w.heap.size) w A n c g):=by
 rcases ChangeShapes.open_ints Tryz.underlying24 Tryz.underlying22 cells22 h with⟨rfl,_⟩|⟨a,len,cap,zs,rfl,_,hle,hmax,hlen,_,hcell,hw⟩
 · exact⟨none,0,0,rfl,fun _=>⟨0,(LN.nil _ _).lq⟩⟩
 · rw[if_pos rfl]at hlen;refine⟨some a,len,cap,rfl,fun hn=>?_⟩;have hb:∀z ∈ zs,0<=z/\z<18446744073709551616:=fun z hz=>(by have:=bounds_u64 (hw z hz);omega)
   have a1:Gn.NatV 22 w (some a) len cap ((zs.take len).map Int.toNat):=by
    refine⟨by simp;omega,hle,hmax,fun x hx=>?_,fun h0=>?_⟩
    · obtain⟨z,hz,rfl⟩:=List.mem_map.1 hx;have:=hb z (List.mem_of_mem_take hz);show z.toNat<18446744073709551616;omega
    · obtain⟨b,off,rfl,a3⟩:=ints_at hcell (by omega);obtain⟨cs,t,f,hh,_⟩:=cell_row (a3 0 (by omega));refine⟨b,off,rfl,cs,f,t,hh,fun i v hv=>?_⟩;have hi:i<len:=by
       have:=(List.getElem?_eq_some_iff.1 hv).1;simp at this;omega
      have hz:i<zs.length:=(by omega);have a4:=a3 i hz;have:cs[off+i]?=some (.int .u64 (zs.getD i 0)):=by
       simpa[World.cell?,hh] using a4
      rw[this,<-hv];have:=hb _ (List.getElem_mem hz);simp[List.getD,hi,hz,Gn.u64];omega
   exact⟨_,⟨⟨_,a1,rfl⟩,hn,fun a e h0=>natv_lt a1 e h0⟩⟩
theorem open_num {fuel:Nat} {cs:List Value} {x:DataW H × List MemPlace} (h:DataW.trod enc Tryz.prog w base (fun _=>true) held fuel 26 cs=some x):
 ∃(A:Option Addr) (n c:Nat),cs=[.slice A n c]/\(n<=1000->∃g,LQ (fun x=>x<w.heap.size) w A n c g):=by
 obtain⟨y0,n,_,hl,h0⟩:=trod_struct1 Tryz.underlying26 h;rw[cells26]at hl;have e:(cs.drop 0).take (Tryz.prog.cellsOf 24)=cs:=by rw[cells24,List.drop_zero,List.take_of_length_le (by omega)]
 exact open_limbs (e▸h0)
end
end Go.Proofs.YtbhnjkegkadodaaGreatDoor
namespace Go.Proofs.YtbhnjkegkadodaaGreatDoor
open Gz
open Go Go.Proofs Go.ChangeShapes Go.WideShapes Go.ChangeAt Go.RowKit Go.Joins Go.Deep Gl
theorem laid3_of {W:World} {L:List (String × DataW Unit)} (h:laidMet Tryz.prog (("math/bits.deBruijn32tab",Rows.laid_math_bits_deBruijn32tab) :: ("math/bits.deBruijn64tab",Rows.laid_math_bits_deBruijn64tab) :: ("internal/strconv.uint64pow10",Rows.laid_internal_strconv_uint64pow10) :: L) W):Laid3 W:=by
 obtain⟨ps,⟨_,_,_,_,p1,q1,_,_,_,_,⟨_,_,_,_,p2,q2,_,_,_,_,⟨g,t,cs,fuel,p,q,hg,ht,a1,hd,_,rfl⟩,rfl⟩,rfl⟩,_,a6⟩:=h;obtain rfl:=Option.some.inj (glob3.symm.trans hg);obtain rfl:=Option.some.inj (glob3t.symm.trans ht);have a4:cs.toList=pow10s:=Lib.cells_of_tab (n:=20) (k:=.u64) (zs:=[1,10,100,1000,10000,100000,1000000,10000000,100000000,1000000000,10000000000,100000000000,1000000000000,10000000000000,100000000000000,1000000000000000,10000000000000000,100000000000000000,1000000000000000000,10000000000000000000]) Tryz.underlying359 Tryz.underlying22 cells22 cells359 hd;have a2:cs=pow10s.toArray:=by rw[<-a4]
 have a5:cs.size=20:=by rw[a2];rfl
 obtain⟨⟨c,t,hh⟩,_⟩:=a6 3 0 (by
  rw[a5];refine List.mem_append_right _ (List.mem_append_right _ ?_);refine List.mem_append_left _ (List.mem_append_left _ ?_);simp[MemPlace.row])
 refine⟨t,?_⟩;unfold World.var? at a1;rw[glob3,Option.bind_some,hh]at a1;have a1:c=cs:=by simpa using a1
 rw[hh,a1,a2]
end Go.Proofs.YtbhnjkegkadodaaGreatDoor
section
open Go Go.Proofs
namespace Go.Proofs.YtbhnjkegkadodaaGreatDoor
open Gz
open Go.ChangeShapes Go.WideShapes Go.ChangeAt Go.RowKit Go.Joins Go.Deep Gl
theorem own:ownKnob Tryz.prog.godebug=none:=by kernel_rfl
theorem kids:Kids Tryz.prog (· < Tryz.prog.types.size):=kids_rows (by kernel_rfl) (by kernel_rfl)
theorem full:∀t e,t<Tryz.prog.types.size->Tryz.prog.underlying t=some (.slice e) → 0<Tryz.prog.cellsOf e:=slices_full_of Tryz.prog (by kernel_rfl)
def flat1:DataW Unit->List Value
 | .lit (.int k z)=>[.int k z]
 | .agg ds=>ds.flatMap fun | .lit (.int k z)=>[.int k z]|_=>[]
 | _=>[]
def flat2:DataW Unit->List Value
 | .agg ds=>ds.flatMap flat1
 | _=>[]
def layIn (d:DataW Unit):Obj->Obj
 | .cells _ t f=>.cells (flat2 d).toArray t f
 | o=>o
noncomputable def laidWorld (args:Array Value) (os:Os):World:=
 { World.holding Tryz.prog os ⟨#[],args,[]⟩ with heap:=(((((World.holding Tryz.prog os ⟨#[],args,[]⟩).heap.modify 3 (layIn Rows.laid_internal_strconv_uint64pow10)).modify 4 (layIn Rows.laid_unicode_utf8_first)).modify 5 (layIn Rows.laid_unicode_utf8_acceptRanges)).modify 6 (layIn Rows.laid_math_bits_deBruijn32tab)).modify 7 (layIn Rows.laid_math_bits_deBruijn64tab) }
noncomputable def args5:Array Value:=#[.int .u64 0,.slice none 0 0]
theorem laid_met5 (os:Os):laidMet Tryz.prog Rows.f1CountsRow.laid ((laidWorld #[] os).forCall (fun _ _=>0) ⟨#[],args5,[]⟩).memory:=
 laidMet_of_run' 8 (by kernel_rfl) (by kernel_rfl)
theorem reads5 (os:Os) {H:Type} (enc:TypeId × Value->H):∃places,DataW.whole enc Tryz.prog ((laidWorld #[] os).forCall (fun _ _=>0) ⟨#[],args5,[]⟩).memory Tryz.f5.params.toList Rows.f1CountsSpec.vars false args5.toList 8=some ([.lit (.int .u64 0),.nil],[],places):=
 ⟨[],by kernel_rfl⟩
noncomputable def args6:Array Value:=#[.int .u64 0,.slice none 0 0]
theorem laid_met6 (os:Os):laidMet Tryz.prog Rows.f1SumsRow.laid ((laidWorld #[] os).forCall (fun _ _=>0) ⟨#[],args6,[]⟩).memory:=
 laidMet_of_run' 8 (by kernel_rfl) (by kernel_rfl)
theorem reads6 (os:Os) {H:Type} (enc:TypeId × Value->H):∃places,DataW.whole enc Tryz.prog ((laidWorld #[] os).forCall (fun _ _=>0) ⟨#[],args6,[]⟩).memory Tryz.f6.params.toList Rows.f1SumsSpec.vars false args6.toList 8=some ([.lit (.int .u64 0),.nil],[],places):=
 ⟨[],by kernel_rfl⟩
end Go.Proofs.YtbhnjkegkadodaaGreatDoor
end
