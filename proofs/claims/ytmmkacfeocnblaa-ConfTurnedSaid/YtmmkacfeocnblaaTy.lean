/- The types' data. No conditions. -/
import Derived.Test.YtmmkacfeocnblaaEngF
namespace Go.Proofs.Ytmmkacfeocnblaa.Ly
open Go Go.Proofs.Ytmmkacfeocnblaa.Eng Go.Proofs.Ytmmkacfeocnblaa.Mem
set_option linter.unusedSimpArgs false
set_option linter.unusedVariables false
set_option maxRecDepth 100000
structure TWindow where
  Partition : Int
  Usable : Int
  Slack : Int
  deriving Inhabited, DecidableEq
def TWindow.cells (x : TWindow) : List Value := [.int .i64 x.Partition, .int .i64 x.Usable, .int .i64 x.Slack]
abbrev TWindow.arr (x : TWindow) : Array Value := #[.int .i64 x.Partition, .int .i64 x.Usable, .int .i64 x.Slack]
structure TWindow.ok (F : Nat → Prop) (W : World) (x : TWindow) : Prop where
  Partition : InK .i64 x.Partition
  Usable : InK .i64 x.Usable
  Slack : InK .i64 x.Slack
theorem TWindow.ok.ext {F F' : Nat → Prop} {W W' : World} (he : Ext F W W') (hF : ∀ b, F b → F' b) {x : TWindow} (h : TWindow.ok F W x) : TWindow.ok F' W' x := ⟨h.Partition, h.Usable, h.Slack⟩
structure TRegion where
  Page : Int
  Pages : Int
  Frame : Int
  Rights : Int
  deriving Inhabited, DecidableEq
def TRegion.cells (x : TRegion) : List Value := [.int .i64 x.Page, .int .i64 x.Pages, .int .i64 x.Frame, .int .i64 x.Rights]
abbrev TRegion.arr (x : TRegion) : Array Value := #[.int .i64 x.Page, .int .i64 x.Pages, .int .i64 x.Frame, .int .i64 x.Rights]
structure TRegion.ok (F : Nat → Prop) (W : World) (x : TRegion) : Prop where
  Page : InK .i64 x.Page
  Pages : InK .i64 x.Pages
  Frame : InK .i64 x.Frame
  Rights : InK .i64 x.Rights
theorem TRegion.ok.ext {F F' : Nat → Prop} {W W' : World} (he : Ext F W W') (hF : ∀ b, F b → F' b) {x : TRegion} (h : TRegion.ok F W x) : TRegion.ok F' W' x := ⟨h.Page, h.Pages, h.Frame, h.Rights⟩
structure TPort where
  Channel : Int
  Source : Bool
  deriving Inhabited, DecidableEq
def TPort.cells (x : TPort) : List Value := [.int .i64 x.Channel, .bool x.Source]
abbrev TPort.arr (x : TPort) : Array Value := #[.int .i64 x.Channel, .bool x.Source]
structure TPort.ok (F : Nat → Prop) (W : World) (x : TPort) : Prop where
  Channel : InK .i64 x.Channel
  Source : True
theorem TPort.ok.ext {F F' : Nat → Prop} {W W' : World} (he : Ext F W W') (hF : ∀ b, F b → F' b) {x : TPort} (h : TPort.ok F W x) : TPort.ok F' W' x := ⟨h.Channel, trivial⟩
structure TPartition where
  Name : ByteArray
  Entry : Int
  Action : Int
  Restarts : Int
  Inputs : Int
  Outputs : Int
  Regions : Sl TRegion
  Ports : Sl TPort
  deriving Inhabited
def TPartition.cells (x : TPartition) : List Value := [.string x.Name, .int .i64 x.Entry, .int .i64 x.Action, .int .i64 x.Restarts, .int .i64 x.Inputs, .int .i64 x.Outputs, x.Regions.val, x.Ports.val]
abbrev TPartition.arr (x : TPartition) : Array Value := #[.string x.Name, .int .i64 x.Entry, .int .i64 x.Action, .int .i64 x.Restarts, .int .i64 x.Inputs, .int .i64 x.Outputs, .slice x.Regions.a x.Regions.xs.length x.Regions.cap, .slice x.Ports.a x.Ports.xs.length x.Ports.cap]
structure TPartition.ok (F : Nat → Prop) (W : World) (x : TPartition) : Prop where
  Name : x.Name.size ≤ 140737488351232
  Entry : InK .i64 x.Entry
  Action : InK .i64 x.Action
  Restarts : InK .i64 x.Restarts
  Inputs : InK .i64 x.Inputs
  Outputs : InK .i64 x.Outputs
  Regions : SlOk TRegion.cells 4 TRegion.ok F W x.Regions
  Ports : SlOk TPort.cells 2 TPort.ok F W x.Ports
theorem TPartition.ok.ext {F F' : Nat → Prop} {W W' : World} (he : Ext F W W') (hF : ∀ b, F b → F' b) {x : TPartition} (h : TPartition.ok F W x) : TPartition.ok F' W' x := ⟨h.Name, h.Entry, h.Action, h.Restarts, h.Inputs, h.Outputs, slOk_ext he hF (h.Regions) (fun _ h => TRegion.ok.ext he hF h), slOk_ext he hF (h.Ports) (fun _ h => TPort.ok.ext he hF h)⟩
structure TChannel where
  Kind : Int
  Words : Int
  Depth : Int
  deriving Inhabited, DecidableEq
def TChannel.cells (x : TChannel) : List Value := [.int .i64 x.Kind, .int .i64 x.Words, .int .i64 x.Depth]
abbrev TChannel.arr (x : TChannel) : Array Value := #[.int .i64 x.Kind, .int .i64 x.Words, .int .i64 x.Depth]
structure TChannel.ok (F : Nat → Prop) (W : World) (x : TChannel) : Prop where
  Kind : InK .i64 x.Kind
  Words : InK .i64 x.Words
  Depth : InK .i64 x.Depth
theorem TChannel.ok.ext {F F' : Nat → Prop} {W W' : World} (he : Ext F W W') (hF : ∀ b, F b → F' b) {x : TChannel} (h : TChannel.ok F W x) : TChannel.ok F' W' x := ⟨h.Kind, h.Words, h.Depth⟩
structure TConfig where
  Frames : Int
  Major : Int
  Kernel : Int
  Room : Int
  Cores : Sl (Sl TWindow)
  Partitions : Sl TPartition
  Channels : Sl TChannel
  deriving Inhabited
def TConfig.cells (x : TConfig) : List Value := [.int .i64 x.Frames, .int .i64 x.Major, .int .i64 x.Kernel, .int .i64 x.Room, x.Cores.val, x.Partitions.val, x.Channels.val]
abbrev TConfig.arr (x : TConfig) : Array Value := #[.int .i64 x.Frames, .int .i64 x.Major, .int .i64 x.Kernel, .int .i64 x.Room, .slice x.Cores.a x.Cores.xs.length x.Cores.cap, .slice x.Partitions.a x.Partitions.xs.length x.Partitions.cap, .slice x.Channels.a x.Channels.xs.length x.Channels.cap]
structure TConfig.ok (F : Nat → Prop) (W : World) (x : TConfig) : Prop where
  Frames : InK .i64 x.Frames
  Major : InK .i64 x.Major
  Kernel : InK .i64 x.Kernel
  Room : InK .i64 x.Room
  Cores : SlOk (fun x : Sl TWindow => [Sl.val x]) 1 (fun F W x => SlOk TWindow.cells 3 TWindow.ok F W x) F W x.Cores
  Partitions : SlOk TPartition.cells 8 TPartition.ok F W x.Partitions
  Channels : SlOk TChannel.cells 3 TChannel.ok F W x.Channels
theorem TConfig.ok.ext {F F' : Nat → Prop} {W W' : World} (he : Ext F W W') (hF : ∀ b, F b → F' b) {x : TConfig} (h : TConfig.ok F W x) : TConfig.ok F' W' x := ⟨h.Frames, h.Major, h.Kernel, h.Room, slOk_ext he hF (h.Cores) (fun _ h => slOk_ext he hF h (fun _ h => TWindow.ok.ext he hF h)), slOk_ext he hF (h.Partitions) (fun _ h => TPartition.ok.ext he hF h), slOk_ext he hF (h.Channels) (fun _ h => TChannel.ok.ext he hF h)⟩
theorem slAt_lt {α : Type} {cells : α → List Value} {sz : Nat} {w : World} {s : Sl α} (hc : ∀ x, 0 < (cells x).length) (h : SlAt cells sz Any w s) : SlAt cells sz (fun b => b < w.heap.size) w s := by
  refine ⟨h.len, h.le, fun hne => ?_⟩
  obtain ⟨b, off, ha, -, hh⟩ := h.cells hne
  refine ⟨b, off, ha, ?_, hh⟩
  have hp : 0 < s.xs.length := by
    rcases Nat.eq_zero_or_pos s.xs.length with h | h
    · exact absurd (List.eq_nil_of_length_eq_zero h) hne
    · exact h
  obtain ⟨v, hv⟩ : ∃ v, (cells s.xs[0])[0]? = some v := ⟨_, List.getElem?_eq_getElem (hc _)⟩
  exact cell_lt (hh 0 hp 0 v hv)
theorem slOk_lt {α : Type} [Inhabited α] {cells : α → List Value} {sz : Nat} {ok : (Nat → Prop) → World → α → Prop} {w : World} {s : Sl α} (hc : ∀ x, 0 < (cells x).length) (h : SlOk cells sz ok Any w s) (hok : ∀ x, ok Any w x → ok (fun b => b < w.heap.size) w x) : SlOk cells sz ok (fun b => b < w.heap.size) w s := ⟨slAt_lt hc h.1, fun i hi => hok _ (h.2 i hi)⟩
theorem TWindow.ok.lt {w : World} {x : TWindow} (h : TWindow.ok Any w x) : TWindow.ok (fun b => b < w.heap.size) w x := ⟨h.Partition, h.Usable, h.Slack⟩
theorem TRegion.ok.lt {w : World} {x : TRegion} (h : TRegion.ok Any w x) : TRegion.ok (fun b => b < w.heap.size) w x := ⟨h.Page, h.Pages, h.Frame, h.Rights⟩
theorem TPort.ok.lt {w : World} {x : TPort} (h : TPort.ok Any w x) : TPort.ok (fun b => b < w.heap.size) w x := ⟨h.Channel, trivial⟩
theorem TChannel.ok.lt {w : World} {x : TChannel} (h : TChannel.ok Any w x) : TChannel.ok (fun b => b < w.heap.size) w x := ⟨h.Kind, h.Words, h.Depth⟩
theorem TPartition.ok.lt {w : World} {x : TPartition} (h : TPartition.ok Any w x) : TPartition.ok (fun b => b < w.heap.size) w x := ⟨h.Name, h.Entry, h.Action, h.Restarts, h.Inputs, h.Outputs, slOk_lt (fun x => by first | (show 0 < 1; decide) | (show 0 < 4; decide)) h.Regions (fun x h => TRegion.ok.lt h), slOk_lt (fun x => by first | (show 0 < 1; decide) | (show 0 < 2; decide)) h.Ports (fun x h => TPort.ok.lt h)⟩
theorem TConfig.ok.lt {w : World} {x : TConfig} (h : TConfig.ok Any w x) : TConfig.ok (fun b => b < w.heap.size) w x := ⟨h.Frames, h.Major, h.Kernel, h.Room, slOk_lt (fun x => by first | (show 0 < 1; decide) | (show 0 < 1; decide)) h.Cores (fun x h => slOk_lt (fun x => by show 0 < 3; decide) h (fun x h => TWindow.ok.lt h)), slOk_lt (fun x => by first | (show 0 < 1; decide) | (show 0 < 8; decide)) h.Partitions (fun x h => TPartition.ok.lt h), slOk_lt (fun x => by first | (show 0 < 1; decide) | (show 0 < 3; decide)) h.Channels (fun x h => TChannel.ok.lt h)⟩
end Go.Proofs.Ytmmkacfeocnblaa.Ly
