/- (the shelf stands in WShelf) -/
import Derived.Test.YtgcgpeeokdnplaaDoorBWShelf
